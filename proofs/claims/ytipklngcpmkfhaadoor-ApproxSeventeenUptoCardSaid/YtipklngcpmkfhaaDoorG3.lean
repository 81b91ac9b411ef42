/- Parts Rxe, Rv, Rw, Near, Atm, Atx, Str, Law4, Law4t, Grp2, Strc, Law5s, Atr, Ats, Atw, Flt, Ref1, Ref3, Shl, Apx, Fl, joined. -/
import Derived.Test.YtipklngcpmkfhaaDoorG2
import Derived.ChangeMaps5
import Derived.Laws.Slices
import Derived.Laws.FloatArith

namespace Go.Proofs.YtipklngcpmkfhaaDoor
open Go.RowKit
set_option maxHeartbeats 4000000 in
theorem rx_Text {w:World}{A:Option Addr}{an ac m base:Nat}(hS:Signs w) (hx:Wi w A an ac m) (hal:an≤4194304) (hbl:2≤base) (hbu:base≤36):
    Calls Tryd.prog 75 #[.slice A an ac,.int .i64 ((base:Nat):Int)] w (Gv w (T2 (Is (.string (strB (txtN base m)))) (Is (.int .i64 0)))):=by
 have hml:(wd m).length≤4194304:=Nat.le_trans hx.len hal
 have hlen0:0+max 0 (db base m).length≤137438953472:=by have:=len_db_small hbl hml;omega
 refine sx_enter Tryd.func75 rfl (n:=73) rfl (bq rfl) (args:= [.slice A an ac,.int .i64 ((base:Nat):Int)]) (cw_keep [(0,.slice A an ac),(1,.int .i64 ((base:Nat):Int))] ⟨rfl,rfl,trivial⟩ (sr (mv 2 rfl (ne_ (cw_seq (sr (mv 1 rfl (wl_cmp rfl rfl rfl false (cb_lt_f (a:=base) (b:=2) rfl rfl (by omega)) (by decide) (mv 2 rfl (wl_cmp rfl rfl rfl false (cb_gt_f (a:=base) (b:=36) rfl rfl (by omega)) (by decide) (pu (v:= .bool false) rfl (by kernel_rfl) (ne_ (cw_false rfl ?_)))))))))))))
 refine cw_skip (eo_then (sr (mv 1 rfl (cl (vs:= [.slice A an ac]) (Ext.refl w) (g_nat_LeastW (hx.ext (Ext.refl w)) (by omega)) rfl (by kernel_rfl) fun xr3 v1 r3 e2 hw1=>?_))))
 obtain⟨A4,n4,c4,rfl,j4,o4⟩:=r3
 refine mv 1 rfl (ne_ (cw_seq (cw_seq ?_)))
 by_cases hz0:n4=0
 · 
  have hm0:m=0:=len_wd_zero.1 (by omega)
  refine cw_region (mv 1 rfl (pu (v:= .int .i64 ((n4:Nat):Int)) rfl (by kernel_rfl) (wl_cmp rfl rfl rfl true (cb_eq_t (a:=n4) (b:=0) rfl rfl (by omega)) (by decide) (ne_ (cw_true rfl (sr (mv 2 rfl (ne_ (cw_ret (eo_thenR (eo_ret [.string (strB ([48])),I0] rfl ⟨rfl,rfl,trivial⟩ ?_)))))))))))
  have hstr:([48]:List Nat)=txtN base m:=by subst hm0;rfl
  exact⟨_,rfl,⟨_,_,rfl,(show Value.string _=Value.string _ from congrArg (fun l=>Value.string (strB l)) hstr),rfl⟩,hw1⟩
 · 
  have hm0:m≠0:=fun e=>hz0 (by rw [j4,e];rfl)
  refine cw_region (mv 1 rfl (pu (v:= .int .i64 ((n4:Nat):Int)) rfl (by kernel_rfl) (wl_cmp rfl rfl rfl false (cb_eq_f (a:=n4) (b:=0) rfl rfl (by omega)) (by decide) (ne_ (cw_false rfl (cw_skip (eo_then (sr (mv 1 rfl (wl_call rfl rfl (vs:= [.int .i64 ((base:Nat):Int)]) (by kernel_rfl) (by decide) (rx_piece hbl hbu) ?_))))))))))
  rintro _ v5 ⟨k8,p9,xr7,rfl,r7,e6⟩
  refine ret_intro ?_
  have hw2:=hw1.trans e6
  obtain⟨_,_,rfl,rfl,rfl⟩:=r7
  refine mv 1 rfl (pu (v:= .int .i64 ((k8:Nat):Int)) rfl (by kernel_rfl) (pu (v:= .int .u64 ((base^k8:Nat):Int)) rfl (by kernel_rfl) (mv 2 rfl (ne_ (sr (mv 3 rfl (pu (v:= .agg #[.int .i64 ((base:Nat):Int),.int .i64 ((k8:Nat):Int),.int .u64 ((base^k8:Nat):Int),S0,S0]) rfl (by kernel_rfl) (wl_box rfl rfl (vs:= [.int .i64 ((base:Nat):Int),.int .i64 ((k8:Nat):Int),.int .u64 ((base^k8:Nat):Int),S0,S0]) rfl (by decide) fun g11 v12 nb=>?_))))))))
  have hgl:=Nat.le_of_eq nb.at_
  have hle0:w.heap.size≤v5.heap.size:=hw2.size
  have hb14:=nb.bk
  have ge15:w.heap.size≤g11:=by rw [←nb.at_];exact hw2.size
  have e13:=nb.ext
  clear nb
  have hw3:=hw2.trans e13
  refine mv 1 rfl (ne_ (cw_seq (cw_seq ?_)))
  by_cases h12:n4>12
  · 
   refine cw_region (mv 1 rfl (pu (v:= .int .i64 ((n4:Nat):Int)) rfl (by kernel_rfl) (wl_cmp rfl rfl rfl true (cb_gt_t (a:=n4) (b:=12) rfl rfl (by omega)) (by decide) (ne_ (cw_true rfl (cw_seq ?_))))))
   have hk1:1≤k8:=by refine Nat.pos_of_ne_zero (fun e=>?_);have:=p9.gt;rw [e,Nat.zero_add,Nat.pow_one] at this;omega
   have hu2:2≤base^k8:=Nat.le_trans hbl (Nat.le_trans (Nat.le_of_eq (Nat.pow_one base).symm) (Nat.pow_le_pow_right (by omega) hk1))
   have hum:=p9.le
   refine cw_region (mv 1 rfl (wl_bslice rfl rfl (by decide) (k:=1) (e:=50) [.int .u64 ((base^k8:Nat):Int)] (fun _=>by kernel_rfl) fun g16 v17 nb=>?_))
   have hb18:=nb.bk
   have e19:=nb.ext
   clear nb
   have hw4:=hw3.trans e19
   refine mv 1 rfl (ne_ (cw_block ?_))
   refine cw_loop (T:=World×Nat×Option Addr×Nat×Nat×Option Addr×Nat)
    (fun⟨wr,j,QA,qn,qc,PA,pc⟩=> [(0,.slice A4 n4 c4),(1,.int .i64 ((base:Nat):Int)),(6,.int .i64 ((k8:Nat):Int)),(7,.int .u64 ((base^k8:Nat):Int)),(8,.pointer (some ⟨g11,0,none⟩)),(9,.slice QA qn qc)])
    (fun⟨wr,j,QA,qn,qc,PA,pc⟩=>wr)
    (fun⟨wr,j,QA,qn,qc,PA,pc⟩=>(Ext w wr)∧(j=0∨(base^k8)^2^(j-1)≤m)∧(qn=(wd ((base^k8)^2^j)).length)∧(qn≤8388608)∧(Own wr 0 50 1 QA qn qc ((wd ((base^k8)^2^j)).map W64))∧(Bk wr g11 118 [.int .i64 ((base:Nat):Int),.int .i64 ((k8:Nat):Int),.int .u64 ((base^k8:Nat):Int),.slice PA j pc,S0])∧(Pw wr v5.heap.size PA j pc (base^k8))∧(v5.heap.size≤wr.heap.size)∧(Own wr 0 50 1 A4 n4 c4 ((wd m).map W64)))
    (fun⟨wr,j,QA,qn,qc,PA,pc⟩=>64-j)
    (⟨v17,0,(some ⟨g16,0,none⟩),1,1,none,0⟩:World×Nat×Option Addr×Nat×Nat×Option Addr×Nat) ⟨hw4,(Or.inl rfl),(by rw [Nat.pow_zero,Nat.pow_one];exact len1 hum (by omega)),(by decide),(by rw [Nat.pow_zero,Nat.pow_one];exact (bw_own hb18 hum (by omega))),(hb14.ext e19),(Pw.nil _ _ _),((Nat.le_trans e13.size e19.size)),((o4.ext (e6.trans (e13.trans e19)))).mono (Nat.zero_le _)⟩ rfl ⟨rfl,rfl,rfl,rfl,rfl,rfl,trivial⟩ ?_
   rintro⟨wr,j,QA,qn,qc,PA,pc⟩ ⟨hw1,hjm,hqn,hq8,hq,b_g,hPw,hpb0,hoa⟩
   refine cw_re [(0,.slice A4 n4 c4),(1,.int .i64 ((base:Nat):Int)),(6,.int .i64 ((k8:Nat):Int)),(7,.int .u64 ((base^k8:Nat):Int)),(8,.pointer (some ⟨g11,0,none⟩)),(9,.slice QA qn qc)] wr rfl ⟨rfl,rfl,rfl,rfl,rfl,rfl,trivial⟩ (cw_seq (cw_seq ?_))
   have hj30:j≤29:=by rcases hjm with h | h;(· omega);(· have:=ip_small (pow_le_bits hu2 h hml) (by omega);omega)
   by_cases hle:(base^k8)^2^j≤m
   · 
    have hsq:(wd ((base^k8)^2^j*(base^k8)^2^j)).length≤8388608:=len_sq (Nat.le_trans (len_wd_mono hle) hml)
    refine cw_region (mv 2 rfl (cl (vs:= [.slice QA qn qc,.slice A4 n4 c4]) hw1 (rx_Cmp hq.wi (by omega) hoa.wi (by omega)) rfl (by kernel_rfl) fun xr22 v20 r22 e21 hw2=>?_))
    obtain rfl:=r22
    refine wl_cmp rfl rfl rfl true (cmp3_leT hle) (by decide) (ne_ (cw_true rfl (cw_skip (eo_then (cw_block (sr (mv 2 rfl (pf g11 0 rfl (by kernel_rfl) (pf g11 3 rfl (by kernel_rfl) (wl_load rfl rfl (load_cell (fun _=>by kernel_rfl) (b_g.ext e21) rfl) (by decide) (mv 1 rfl (wl_bslice rfl rfl (by decide) (k:=1) (e:=22) [.slice QA qn qc] (fun _=>by kernel_rfl) fun g23 v24 nb=>?_))))))))))))
    have hb25:=nb.bk
    have e26:=nb.ext
    clear nb
    have hw3:=hw2.trans e26
    refine wl_appP rfl rfl rfl (hPw.ext (e21.trans e26)) (Nat.le_trans hpb0 ((Nat.le_trans e21.size e26.size))) hb25 hqn hq8 (hq.ext (e21.trans e26)) (by omega) (by decide) fun A27 c28 v29 pw30 uo31 ⟨us32,ow33⟩=>?_
    have hw4:=uo31.ext hw3 (fun p hp=>Nat.le_trans hle0 (ow33.block p hp).1)
    refine pf g11 0 rfl (by kernel_rfl) (pf g11 3 rfl (by kernel_rfl) ?_)
    have hb35:=((b_g.ext (e21.trans e26)).updO uo31 (own_ne ow33 (b_g.ext (e21.trans e26)) (by decide)))
    refine wl_stored1 rfl rfl rfl (fun _=>by kernel_rfl) rfl hb35 (bq rfl) rfl [.int .i64 ((base:Nat):Int),.int .i64 ((k8:Nat):Int),.int .u64 ((base^k8:Nat):Int),.slice A27 (j+1) c28,S0] rfl fun v34 hb36 u37 hs38=>?_
    have hw5:=u37.ext hw4 ge15
    refine ne_ (cw_seq (cw_seq ?_))
    by_cases hbig:2*qn>n4+2
    · 
     refine cw_region (mv 1 rfl (pu (v:= .int .i64 ((qn:Nat):Int)) rfl (by kernel_rfl) (wl_ar rfl rfl rfl ((2*qn:Nat):Int) (ai_mul (a:=2) (b:=qn) rfl rfl (by omega)) (by decide) (mv 1 rfl (pu (v:= .int .i64 ((n4:Nat):Int)) rfl (by kernel_rfl) (wl_ar rfl rfl rfl ((n4+2:Nat):Int) (ai_add (a:=n4) (b:=2) rfl rfl (by omega)) (by decide) (wl_cmp rfl rfl rfl true (cb_gt_t (a:=2*qn) (b:=n4+2) rfl rfl (by omega)) (by decide) (ne_ (cw_true rfl (cw_exit (eo_thenX (eo_block_far (by decide) (eo_loopX ?_)))))))))))))
     refine eo_block_here (eo_then (sr (mv 3 rfl (pf g11 0 rfl (by kernel_rfl) (pf g11 3 rfl (by kernel_rfl) (wl_load rfl rfl (load_cell (fun _=>by kernel_rfl) hb36 rfl) (by decide) (pu (v:= .int .i64 (((j+1):Nat):Int)) rfl (by kernel_rfl) (wl_ar rfl rfl rfl (((j+1:Nat):Int)-1) (ar_i64s rfl (by omega) (by omega)) (by decide) (wl_call rfl rfl (vs:= [.pointer (some ⟨g11,0,none⟩),.slice A4 n4 c4,.int .i64 (((j+1:Nat):Int)-1),I0]) (by kernel_rfl) (by decide) (rx_halves (j+1) (lb:=v5.heap.size) (bs:= []) rfl (hS.ext hw5) (Nat.lt_of_lt_of_le (World.block_lt_of_cell? w _ (hS 0 (by decide))) hle0) hbl hbu hb36 (Own.nil _ _ _ _) hgl (Nat.le_trans hpb0 ((Nat.le_trans (Nat.le_trans (Nat.le_trans e21.size e26.size) uo31.size) u37.by_.size))) (((hoa.ext (e21.trans e26)).updOT ow33 (by decide) uo31).updT hb35 (by decide) u37).wi (by omega) rfl p9 (by decide) hlen0 ((pw30.updT hb35 u37 (by decide) (by decide)).mono (Nat.zero_le _)) (Nat.le_refl _) (by omega)) ?_)))))))))
     rintro _ v39 ⟨rfl,A40,n41,c42,hb43,ho44,uw45,kp46⟩
     refine ret_intro ?_
     have hw6:=uw45.ext hw5 hle0
     refine ne_ (sr (mv 1 rfl (pf g11 0 rfl (by kernel_rfl) (pf g11 4 rfl (by kernel_rfl) (wl_load rfl rfl (load_cell (fun _=>by kernel_rfl) hb43 rfl) (by decide) (wl_toStr rfl rfl ho44 (by decide) (mv 2 rfl (ne_ (cw_ret (eo_ret [.string (strB ([]++txt (padTo (db base m) 0))),I0] rfl ⟨rfl,rfl,trivial⟩ ?_))))))))))
     have hstr:([]++txt (padTo (db base m) 0):List Nat)=txtN base m:=by rw [List.nil_append,padTo_of (Nat.zero_le _),txtN,if_neg hm0]
     exact⟨_,rfl,⟨_,_,rfl,(show Value.string _=Value.string _ from congrArg (fun l=>Value.string (strB l)) hstr),rfl⟩,hw6⟩
    · 
     refine cw_region (mv 1 rfl (pu (v:= .int .i64 ((qn:Nat):Int)) rfl (by kernel_rfl) (wl_ar rfl rfl rfl ((2*qn:Nat):Int) (ai_mul (a:=2) (b:=qn) rfl rfl (by omega)) (by decide) (mv 1 rfl (pu (v:= .int .i64 ((n4:Nat):Int)) rfl (by kernel_rfl) (wl_ar rfl rfl rfl ((n4+2:Nat):Int) (ai_add (a:=n4) (b:=2) rfl rfl (by omega)) (by decide) (wl_cmp rfl rfl rfl false (cb_gt_f (a:=2*qn) (b:=n4+2) rfl rfl (by omega)) (by decide) (ne_ (cw_false rfl (cw_skip (eo_then (cw_region (mv 1 rfl ?_)))))))))))))
     refine cl (vs:= [.slice QA qn qc]) hw5 (rx_Square (Nat.zero_le _) (((hq.ext (e21.trans e26)).updOT ow33 (by decide) uo31).updT hb35 (by decide) u37).wi (by omega)) rfl (by kernel_rfl) fun xr49 v47 r49 e48 hw6=>?_
     obtain⟨A50,n50,c50,rfl,j50,o50⟩:=r49
     refine mv 1 rfl (wl_nil (eo_block_normal (eo_round (⟨v47,j+1,A50,n50,c50,A27,c28⟩:World×Nat×Option Addr×Nat×Nat×Option Addr×Nat) ⟨hw6,(Or.inr hle),(by rw [j50,pow_sq]),(by rw [j50];exact hsq),(by rw [←pow_sq];exact o50),(hb36.ext e48),((pw30.updT hb35 u37 (by decide) (by decide)).ext e48),(Nat.le_trans hpb0 ((Nat.le_trans (Nat.le_trans (Nat.le_trans (Nat.le_trans e21.size e26.size) uo31.size) u37.by_.size) e48.size))),((((hoa.ext (e21.trans e26)).updOT ow33 (by decide) uo31).updT hb35 (by decide) u37).ext e48)⟩ (show 64-(j+1)<64-j by omega) rfl ⟨rfl,rfl,rfl,rfl,rfl,rfl,trivial⟩)))
   · 
    refine cw_region (mv 2 rfl (cl (vs:= [.slice QA qn qc,.slice A4 n4 c4]) hw1 (rx_Cmp hq.wi (by omega) hoa.wi (by omega)) rfl (by kernel_rfl) fun xr53 v51 r53 e52 hw2=>?_))
    obtain rfl:=r53
    refine wl_cmp rfl rfl rfl false (cmp3_leF (by omega)) (by decide) (ne_ (cw_false rfl (cw_exit (eo_thenX (eo_loopX (eo_block_here (eo_then (sr (mv 3 rfl (pf g11 0 rfl (by kernel_rfl) (pf g11 3 rfl (by kernel_rfl) (wl_load rfl rfl (load_cell (fun _=>by kernel_rfl) (b_g.ext e52) rfl) (by decide) (pu (v:= .int .i64 ((j:Nat):Int)) rfl (by kernel_rfl) ?_)))))))))))))
    refine wl_ar rfl rfl rfl (((j:Nat):Int)-1) (ar_i64s rfl (by omega) (by omega)) (by decide) (wl_call rfl rfl (vs:= [.pointer (some ⟨g11,0,none⟩),.slice A4 n4 c4,.int .i64 (((j:Nat):Int)-1),I0]) (by kernel_rfl) (by decide) (rx_halves (j) (lb:=v5.heap.size) (bs:= []) rfl (hS.ext hw2) (Nat.lt_of_lt_of_le (World.block_lt_of_cell? w _ (hS 0 (by decide))) hle0) hbl hbu (b_g.ext e52) (Own.nil _ _ _ _) hgl (Nat.le_trans hpb0 (e52.size)) (hoa.ext e52).wi (by omega) rfl p9 (by decide) hlen0 ((hPw.ext e52).mono (Nat.zero_le _)) (Nat.le_refl _) (by omega)) ?_)
    rintro _ v54 ⟨rfl,A55,n56,c57,hb58,ho59,uw60,kp61⟩
    refine ret_intro ?_
    have hw3:=uw60.ext hw2 hle0
    refine ne_ (sr (mv 1 rfl (pf g11 0 rfl (by kernel_rfl) (pf g11 4 rfl (by kernel_rfl) (wl_load rfl rfl (load_cell (fun _=>by kernel_rfl) hb58 rfl) (by decide) (wl_toStr rfl rfl ho59 (by decide) (mv 2 rfl (ne_ (cw_ret (eo_ret [.string (strB ([]++txt (padTo (db base m) 0))),I0] rfl ⟨rfl,rfl,trivial⟩ ?_))))))))))
    have hstr:([]++txt (padTo (db base m) 0):List Nat)=txtN base m:=by rw [List.nil_append,padTo_of (Nat.zero_le _),txtN,if_neg hm0]
    exact⟨_,rfl,⟨_,_,rfl,(show Value.string _=Value.string _ from congrArg (fun l=>Value.string (strB l)) hstr),rfl⟩,hw3⟩
  · 
   refine cw_region (mv 1 rfl (pu (v:= .int .i64 ((n4:Nat):Int)) rfl (by kernel_rfl) (wl_cmp rfl rfl rfl false (cb_gt_f (a:=n4) (b:=12) rfl rfl (by omega)) (by decide) (ne_ (cw_false rfl (cw_skip (eo_then (sr (mv 3 rfl (pf g11 0 rfl (by kernel_rfl) (pf g11 3 rfl (by kernel_rfl) (wl_load rfl rfl (load_cell (fun _=>by kernel_rfl) hb14 rfl) (by decide) (pu (v:= .int .i64 0) rfl (by kernel_rfl) ?_)))))))))))))
   refine wl_ar rfl rfl rfl (((0:Nat):Int)-1) (ar_i64s rfl (by omega) (by omega)) (by decide) (wl_call rfl rfl (vs:= [.pointer (some ⟨g11,0,none⟩),.slice A4 n4 c4,.int .i64 (((0:Nat):Int)-1),I0]) (by kernel_rfl) (by decide) (rx_halves 0 (lb:=v5.heap.size) (bs:= []) rfl (hS.ext hw3) (Nat.lt_of_lt_of_le (World.block_lt_of_cell? w _ (hS 0 (by decide))) hle0) hbl hbu hb14 (Own.nil _ _ _ _) hgl (e13.size) (o4.ext (e6.trans e13)).wi (by omega) rfl p9 (by decide) hlen0 (Pw.nil _ _ _) (Nat.le_refl _) (by omega)) ?_)
   rintro _ v62 ⟨rfl,A63,n64,c65,hb66,ho67,uw68,kp69⟩
   refine ret_intro ?_
   have hw4:=uw68.ext hw3 hle0
   refine ne_ (sr (mv 1 rfl (pf g11 0 rfl (by kernel_rfl) (pf g11 4 rfl (by kernel_rfl) (wl_load rfl rfl (load_cell (fun _=>by kernel_rfl) hb66 rfl) (by decide) (wl_toStr rfl rfl ho67 (by decide) (mv 2 rfl (ne_ (cw_ret (eo_ret [.string (strB ([]++txt (padTo (db base m) 0))),I0] rfl ⟨rfl,rfl,trivial⟩ ?_))))))))))
   have hstr:([]++txt (padTo (db base m) 0):List Nat)=txtN base m:=by rw [List.nil_append,padTo_of (Nat.zero_le _),txtN,if_neg hm0]
   exact⟨_,rfl,⟨_,_,rfl,(show Value.string _=Value.string _ from congrArg (fun l=>Value.string (strB l)) hstr),rfl⟩,hw4⟩
theorem run_strix {P:Program}{w:World}{t:TypeId}{bs:List Nat}{i:Nat}(ht:P.underlying t=some .string) (hb:∀b,b∈bs→b<256) (hi:i<bs.length):(Instr.index t (.string (strB bs)) (.int .i64 (i:Int))).run P w= .ok (.int .u8 ((bs.getD i 0:Nat):Int)) w:=by
 have hs:i<(strB bs).size:=by rw [strB_size];exact hi
 rw [run_index_string w t _ _ _ ht,dif_pos ⟨by omega,by omega⟩]
 have e:=strB_get hb hi hs
 simp only [Int.toNat_natCast]
 rw [e]
theorem wl_strix {P:Program}{Q:Exit→Act→World→Prop}{n:Nat}{l:Fr}{w:World}{ops:Array Oper}{rest:List Oper}{d:Nat}{ty:TypeId}{pos:String}{af:Array Edge}{gd:Option (Nat×Bool)}{x y:Operand}{t:TypeId}{bs:List Nat}{i:Nat}(hw:guardB ops l gd=some true)
  (hx:evo l x=some (.string (strB bs))) (hy:evo l y=some (.int .i64 (i:Int))) (ht:P.underlying t=some .string) (hb:∀b,b∈bs→b<256) (hi:i<bs.length) (hn:d<n) (h:wl P ops Q n rest ((d,.int .u8 ((bs.getD i 0:Nat):Int))::l) w):wl P ops Q n (⟨some d,.index t x y,ty,pos,af,gd⟩::rest) l w:=by
 refine wl_val hw hn (fun a' ha=>?_) h
 have e:(Instr.index t (a'.eval x) (a'.eval y)).run P w= .ok (.int .u8 ((bs.getD i 0:Nat):Int)) w:=by rw [ha.ev hx,ha.ev hy];exact run_strix ht hb hi
 show ((Instr.index t (a'.eval x) (a'.eval y)>>=fun r=>pure (Next.value r):Sem Next)).run P w=_
 rw [Sem.run_bind,e];rfl
theorem Rune.eq {bs:List Nat}{p r z:Nat}(h:Rune bs p r z) (hr:r<128):z=1∧r=bs.getD p 0:=by
 by_cases h1:bs.getD p 0<128
 ·exact⟨(h.low h1).2,(h.low h1).1⟩
 ·have:=h.high (by omega);omega
def grp:Bool→List Nat→Option (List Nat)
 | b,[]=>if b then some [] else none
 | b,c::r=>if c=95∧b=true then grp false r else if dv c<10 then (grp true r).map (c:: ·) else none
set_option maxHeartbeats 4000000 in
theorem rx_DecF {w:World}{A:Option Addr}{an ac m:Nat}(hS:Signs w) (hx:Wi w A an ac m) (hal:an≤4194304):
    Calls Tryd.prog 50 #[.slice A an ac] w (Gv w (Is (.string (strB (txtN 10 m))))):=by
 refine sx_enter Tryd.func50 rfl (n:=11) rfl (bq rfl) (args:= [.slice A an ac]) (cw_keep [(0,.slice A an ac)] ⟨rfl,trivial⟩ (sr (mv 1 rfl (ne_ (sr (mv 1 rfl (cl (vs:= [.slice A an ac,.int .i64 10]) (Ext.refl w) (rx_Text (base:=10) (hS.ext (Ext.refl w)) hx (by omega) (by decide) (by decide)) rfl (by kernel_rfl) fun xr3 v1 r3 e2 hw1=>?_)))))))
 obtain⟨_,_,rfl,rfl,rfl⟩:=r3
 refine mv 1 rfl (pu (v:= .string (strB (txtN 10 m))) rfl (by kernel_rfl) (pu (v:= .int .i64 0) rfl (by kernel_rfl) (mv 2 rfl (ne_ (sr (mv 2 rfl (ne_ (cw_ret (eo_ret [.string (strB (txtN 10 m))] rfl ⟨rfl,trivial⟩ ?_)))))))))
 exact⟨_,rfl,rfl,hw1⟩
set_option maxHeartbeats 4000000 in
theorem rx_ReadDec_good {w:World}{bs:List Nat}(hbs:∀b,b∈bs→b<256) (hlen:bs.length≤17179869184) (hg:Good 10 bs):
    Calls Tryd.prog 57 #[.string (strB bs)] w (Gv w (T2 (WR w.heap.size (vald 10 (bs.map dv))) (Is (.int .i64 0)))):=by
 refine sx_enter Tryd.func57 rfl (n:=8) rfl (bq rfl) (args:= [.string (strB bs)]) (cw_keep [(0,.string (strB bs))] ⟨rfl,trivial⟩ (sr (mv 2 rfl (ne_ (sr (mv 1 rfl (cl (vs:= [.string (strB bs),.int .i64 10]) (Ext.refl w) (rx_Read_good (Ext.refl w).size (base:=10) (by decide) (by decide) hbs hlen hg) rfl (by kernel_rfl) fun xr3 v1 r3 e2 hw1=>?_)))))))
 obtain⟨_,_,rfl,⟨A5,n5,c5,rfl,j5,o5⟩,rfl⟩:=r3
 refine pu (v:= .slice A5 n5 c5) rfl (by kernel_rfl) (pu (v:= .int .i64 0) rfl (by kernel_rfl) (mv 2 rfl (ne_ (cw_ret (eo_ret [.slice A5 n5 c5,I0] rfl ⟨rfl,rfl,trivial⟩ ?_)))))
 exact⟨_,rfl,⟨_,_,rfl,⟨_,_,_,rfl,j5,o5⟩,rfl⟩,hw1⟩
end Go.Proofs.YtipklngcpmkfhaaDoor

namespace Go.Proofs.YtipklngcpmkfhaaDoor
theorem dv_sgn {d:Nat}(h:d<36):dv (sgn d)=d:=by
 unfold dv sgn
 by_cases h1:d<10
 ·rw [if_pos h1,if_pos (by omega)];omega
 ·rw [if_neg h1,if_neg (by omega),if_pos (by omega)];omega
theorem vald_rev (b:Nat) (l:List Nat):vald b l.reverse=nb b l:=by
 induction l with
 | nil=>rfl
 | cons x r ih=>rw [List.reverse_cons,vald_snoc,ih,nb_cons,Nat.mul_comm,Nat.add_comm]
theorem map_dv_txt {b:Nat}(hb2:b≤36){l:List Nat}(h:Wfb b l):(txt l).map dv=l.reverse:=by
 unfold txt
 rw [List.map_map]
 have:∀x,x∈l.reverse→(dv∘sgn) x=x:=fun x hx=>dv_sgn (by have:=h x (List.mem_reverse.1 hx);omega)
 rw [List.map_congr_left this,List.map_id']
theorem vald_txtN {b m:Nat}(hb:2≤b) (hb2:b≤36):vald b ((txtN b m).map dv)=m:=by
 unfold txtN
 split
 ·rename_i h;subst h;show vald b [dv 48]=0;rw [show dv 48=0 by decide];unfold vald;simp
 ·rw [map_dv_txt hb2 (Wfb_db hb m),vald_rev,nb_db hb]
theorem db_push {b v d:Nat}(hb:2≤b) (hd:d<b) (h:v*b+d≠0):db b (v*b+d)=d::db b v:=by
 rw [db_pos hb h]
 have e1:(v*b+d)%b=d:=by rw [Nat.add_comm,Nat.add_mul_mod_self_right,Nat.mod_eq_of_lt hd]
 have e2:(v*b+d)/b=v:=by rw [Nat.add_comm,Nat.add_mul_div_right _ _ (by omega),Nat.div_eq_of_lt hd,Nat.zero_add]
 rw [e1,e2]
end Go.Proofs.YtipklngcpmkfhaaDoor

namespace Go.Proofs.YtipklngcpmkfhaaDoor
open Go.RowKit
@[irreducible] def e74:Nat:=1074
theorem e74_eq:e74=1074:=by unfold e74;rfl
@[irreducible] def e98:Nat:=2098
theorem e98_eq:e98=2098:=by unfold e98;rfl
@[irreducible] def e24:Nat:=1024
@[irreducible] def e70:Nat:=970
@[irreducible] def e45:Nat:=2045
theorem e45_eq:e45=2045:=by unfold e45;rfl
@[irreducible] def e46:Nat:=2046
theorem e46_eq:e46=2046:=by unfold e46;rfl
def rv (r:Nat):Nat:=if r<4503599627370496 then r else (4503599627370496+r%4503599627370496)*2^(r/4503599627370496-1)
theorem rv_low {r:Nat}(h:r<4503599627370496):rv r=r:=by unfold rv;rw [if_pos h]
theorem rv_form {p m:Nat}(h:p=0∨4503599627370496≤m) (hm:m≤9007199254740992):rv (p*4503599627370496+m)=m*2^p:=by
 by_cases h1:m<4503599627370496
 ·have hp:p=0:=by omega
  subst hp
  rw [Nat.zero_mul,Nat.zero_add,rv_low h1,Nat.pow_zero,Nat.mul_one]
 ·have hn:¬p*4503599627370496+m<4503599627370496:=by omega
  unfold rv
  rw [if_neg hn]
  by_cases h2:m=9007199254740992
  ·subst h2
   have e1:(p*4503599627370496+9007199254740992)/4503599627370496=p+2:=by omega
   have e2:(p*4503599627370496+9007199254740992)%4503599627370496=0:=by omega
   rw [e1,e2,show p+2-1=p+1 from rfl,Nat.pow_succ]
   omega
  ·have e1:(p*4503599627370496+m)/4503599627370496=p+1:=by omega
   have e2:(p*4503599627370496+m)%4503599627370496=m-4503599627370496:=by omega
   rw [e1,e2,show p+1-1=p from rfl,show 4503599627370496+(m-4503599627370496)=m by omega]
theorem rv_parts (r:Nat):∃p m,r=p*4503599627370496+m∧(p=0∨4503599627370496≤m)∧m<9007199254740992∧rv r=m*2^p∧rv (r+1)=(m+1)*2^p:=by
 by_cases h:r<4503599627370496
 ·refine⟨0,r,by omega,Or.inl rfl,by omega,?_,?_⟩
  ·have:=rv_form (p:=0) (m:=r) (Or.inl rfl) (by omega);rwa [Nat.zero_mul,Nat.zero_add] at this
  ·have:=rv_form (p:=0) (m:=r+1) (Or.inl rfl) (by omega);rwa [Nat.zero_mul,Nat.zero_add] at this
 ·refine⟨r/4503599627370496-1,4503599627370496+r%4503599627370496,by omega,Or.inr (by omega),by omega,?_,?_⟩
  ·have:=rv_form (p:=r/4503599627370496-1) (m:=4503599627370496+r%4503599627370496) (Or.inr (by omega)) (by omega)
   rwa [show (r/4503599627370496-1)*4503599627370496+(4503599627370496+r%4503599627370496)=r by omega] at this
  ·have:=rv_form (p:=r/4503599627370496-1) (m:=4503599627370496+r%4503599627370496+1) (Or.inr (by omega)) (by omega)
   rwa [show (r/4503599627370496-1)*4503599627370496+(4503599627370496+r%4503599627370496+1)=r+1 by omega] at this
theorem rv_lt_succ (r:Nat):rv r<rv (r+1):=by
 obtain⟨p,m,_,_,_,e1,e2⟩:=rv_parts r
 rw [e1,e2]
 exact (Nat.mul_lt_mul_right (Nat.two_pow_pos p)).2 (Nat.lt_succ_self m)
theorem rv_lt {r s:Nat}(h:r<s):rv r<rv s:=by
 induction s with
 | zero=>omega
 | succ s ih=>
  by_cases e:r=s
  ·subst e;exact rv_lt_succ r
  ·exact Nat.lt_trans (ih (by omega)) (rv_lt_succ s)
theorem rv_le {r s:Nat}(h:r≤s):rv r≤rv s:=by
 rcases Nat.lt_or_eq_of_le h with h | h
 ·exact Nat.le_of_lt (rv_lt h)
 ·rw [h];exact Nat.le_refl _
theorem rv_inj {r s:Nat}(h:rv r=rv s):r=s:=by
 rcases Nat.lt_trichotomy r s with h1 | h1 | h1
 ·have:=rv_lt h1;omega
 ·exact h1
 ·have:=rv_lt h1;omega
structure IsNear (X D r:Nat):Prop where
 lo:∀s,s+1=r→D*(rv s+rv r)≤2*X∧(D*(rv s+rv r)=2*X→r%2=0)
 hi:2*X≤D*(rv r+rv (r+1))∧(2*X=D*(rv r+rv (r+1))→r%2=0)
theorem IsNear.not_lt {X D r s:Nat}(hD:0<D) (h:IsNear X D r) (h':IsNear X D s) (hlt:r<s):False:=by
 obtain⟨t,rfl⟩:∃t,s=t+1:=⟨s-1,by omega⟩
 obtain⟨a,b⟩:=h'.lo t rfl
 obtain⟨c,d⟩:=h.hi
 have h1:rv r≤rv t:=rv_le (by omega)
 have h2:rv (r+1)≤rv (t+1):=rv_le (by omega)
 have h3:D*(rv r+rv (r+1))≤D*(rv t+rv (t+1)):=Nat.mul_le_mul_left D (by omega)
 have e:D*(rv r+rv (r+1))=D*(rv t+rv (t+1)):=by omega
 have e2:rv r+rv (r+1)=rv t+rv (t+1):=Nat.eq_of_mul_eq_mul_left hD e
 have e3:rv r=rv t:=by omega
 have e4:=rv_inj e3
 subst e4
 have:=b (by omega)
 have:=d (by omega)
 omega
theorem IsNear.uniq {X D r s:Nat}(hD:0<D) (h:IsNear X D r) (h':IsNear X D s):r=s:=by
 rcases Nat.lt_trichotomy r s with h1 | h1 | h1
 ·exact (h.not_lt hD h' h1).elim
 ·exact h1
 ·exact (h'.not_lt hD h h1).elim
theorem IsNear.cross {X D Y E r:Nat}(hD:0<D) (hE:0<E) (e:X*E=Y*D) (h:IsNear X D r):IsNear Y E r:=by
 have key:∀v:Nat,(D*v≤2*X→E*v≤2*Y)∧(2*X≤D*v→2*Y≤E*v)∧(E*v=2*Y→D*v=2*X):=by
  intro v
  have e1:E*(D*v)=D*(E*v):=by rw [←Nat.mul_assoc,←Nat.mul_assoc,Nat.mul_comm E D]
  have e2:E*(2*X)=D*(2*Y):=by rw [Nat.mul_left_comm,Nat.mul_left_comm D,Nat.mul_comm E,e,Nat.mul_comm Y]
  refine⟨fun h=>?_,fun h=>?_,fun h=>?_⟩
  ·have:=Nat.mul_le_mul_left E h
   rw [e1,e2] at this
   exact Nat.le_of_mul_le_mul_left this hD
  ·have:=Nat.mul_le_mul_left E h
   rw [e1,e2] at this
   exact Nat.le_of_mul_le_mul_left this hD
  ·have:D*(E*v)=D*(2*Y):=by rw [h]
   rw [←e1,←e2] at this
   exact Nat.eq_of_mul_eq_mul_left hE this
 refine⟨fun s hs=>⟨(key _).1 (h.lo s hs).1,fun h2=>(h.lo s hs).2 ((key _).2.2 h2)⟩,(key _).2.1 h.hi.1,fun h2=>h.hi.2 ((key _).2.2 h2.symm).symm⟩
def rhe (m0 R G:Nat):Nat:=if G<2*R∨(G=2*R∧m0%2=1) then m0+1 else m0
theorem rhe_spec {X G:Nat}(hG:0<G):∃m,rhe (X/G) (X%G) G=m∧(m=X/G∨m=X/G+1)∧(∀k,k+1=m→G*(k+m)≤2*X∧(G*(k+m)=2*X→m%2=0))∧2*X≤G*(m+(m+1))∧(2*X=G*(m+(m+1))→m%2=0):=by
 have e:=Nat.div_add_mod X G
 have hlt:=Nat.mod_lt X hG
 generalize X/G=q at*
 generalize X%G=R at*
 refine⟨_,rfl,?_⟩
 unfold rhe
 have e0:G*(q+(q+1))=2*(G*q)+G:=by simp only [Nat.mul_add,Nat.mul_one];omega
 have e1:G*(q+1+(q+1+1))=2*(G*q)+3*G:=by simp only [Nat.mul_add,Nat.mul_one];omega
 split
 ·rename_i h
  refine⟨Or.inr rfl,fun k hk=>?_,?_,fun h2=>?_⟩
  ·have hk:k=q:=by omega
   subst hk
   rw [e0]
   refine⟨by omega,fun h2=>by omega⟩
  ·rw [e1];omega
  ·rw [e1] at h2;omega
 ·rename_i h
  refine⟨Or.inl rfl,fun k hk=>?_,?_,fun h2=>?_⟩
  ·have e2:G*(k+q)=2*(G*q)-G:=by
    subst hk
    have:G*(k+(k+1))+G=2*(G*(k+1)):=by simp only [Nat.mul_add,Nat.mul_one];omega
    omega
   have:G≤G*q:=Nat.le_mul_of_pos_right G (by omega)
   rw [e2]
   refine⟨by omega,fun h2=>by omega⟩
  ·rw [e0];omega
  ·rw [e0] at h2;omega
theorem near_far0 {a b p X m:Nat}(e:p+a=2*b) (h:b≤X) (hp:0<a):p≤2*X∧(p=2*X→m%2=0):=⟨by omega,fun h=>by omega⟩
theorem near_far {a X m:Nat}(h:a*2*4503599627370496≤X) (hp:0<a):a*18014398509481983≤2*X∧(a*18014398509481983=2*X→m%2=0):=
 near_far0 (by omega) h hp
theorem near_of {X D p:Nat}(hD:0<D) (h1:X<D*2^p*9007199254740992) (h2:p=0∨D*2^p*4503599627370496≤X):
  IsNear X D (p*4503599627370496+rhe (X/(D*2^p)) (X%(D*2^p)) (D*2^p)):=by
 have hG:0<D*2^p:=Nat.mul_pos hD (Nat.two_pow_pos p)
 obtain⟨m,hm,hc,hlo,hhi⟩:=rhe_spec (X:=X) hG
 rw [hm]
 have hq1:X/(D*2^p)<9007199254740992:=(Nat.div_lt_iff_lt_mul hG).2 (by rw [Nat.mul_comm];exact h1)
 have hq2:p=0∨4503599627370496≤X/(D*2^p):=by
  rcases h2 with h | h
  ·exact Or.inl h
  ·exact Or.inr ((Nat.le_div_iff_mul_le hG).2 (by rw [Nat.mul_comm];exact h))
 have hf:p=0∨4503599627370496≤m:=by omega
 have hr:rv (p*4503599627370496+m)=m*2^p:=rv_form hf (by omega)
 have hpar:(p*4503599627370496+m)%2=m%2:=by omega
 have e:∀v,D*(v*2^p)=D*2^p*v:=fun v=>by rw [Nat.mul_assoc,Nat.mul_comm v]
 refine⟨fun s hs=>?_,?_⟩
 ·rw [hpar,hr]
  by_cases hb:p=0∨4503599627370496<m
  ·obtain⟨k,rfl⟩:∃k,m=k+1:=⟨m-1,by rcases hb with h | h <;> omega⟩
   have hs2:s=p*4503599627370496+k:=by omega
   have hr2:rv s=k*2^p:=by rw [hs2];exact rv_form (by omega) (by omega)
   rw [hr2,←Nat.add_mul,e]
   exact hlo k rfl
  ·have hm2:m=4503599627370496:=by omega
   obtain⟨p',rfl⟩:∃p',p=p'+1:=⟨p-1,by omega⟩
   have hs2:s=p'*4503599627370496+9007199254740991:=by omega
   have hr2:rv s=9007199254740991*2^p':=by rw [hs2];exact rv_form (by omega) (by omega)
   have h2':D*2^(p'+1)*4503599627370496≤X:=by omega
   have e0:9007199254740991*2^p'+4503599627370496*(2^p'*2)=2^p'*18014398509481983:=by omega
   have e3:D*(rv s+m*2^(p'+1))=D*2^p'*18014398509481983:=by rw [hr2,hm2,Nat.pow_succ,e0,Nat.mul_assoc D]
   have e4:D*2^(p'+1)=D*2^p'*2:=by rw [Nat.pow_succ,Nat.mul_assoc]
   have hpos:0<D*2^p':=Nat.mul_pos hD (Nat.two_pow_pos p')
   rw [e3]
   rw [e4] at h2'
   exact near_far h2' hpos
 ·rw [hpar]
  have hup:(m+1)*2^p≤rv (p*4503599627370496+m+1)∧(rv (p*4503599627370496+m+1)≠(m+1)*2^p→m%2=0):=by
   by_cases hb:m=9007199254740992
   ·refine⟨?_,fun _=>by omega⟩
    have:rv ((p+1)*4503599627370496+4503599627370497)=4503599627370497*2^(p+1):=rv_form (Or.inr (by omega)) (by omega)
    rw [show p*4503599627370496+m+1=(p+1)*4503599627370496+4503599627370497 by omega,this,hb,Nat.pow_succ]
    omega
   ·have:rv (p*4503599627370496+(m+1))=(m+1)*2^p:=rv_form (by omega) (by omega)
    rw [Nat.add_assoc,this]
    exact⟨Nat.le_refl _,fun h=>absurd rfl h⟩
  rw [hr]
  have e5:D*(m*2^p+(m+1)*2^p)=D*2^p*(m+(m+1)):=by rw [←Nat.add_mul,e]
  have h6:D*(m*2^p+(m+1)*2^p)≤D*(m*2^p+rv (p*4503599627370496+m+1)):=Nat.mul_le_mul_left D (by omega)
  refine⟨by rw [e5] at h6;omega,fun h=>?_⟩
  by_cases hz:rv (p*4503599627370496+m+1)=(m+1)*2^p
  ·rw [hz,e5] at h
   exact hhi.2 h
  ·exact hup.2 hz
def nearR (X D:Nat):Nat:=
 let p:=(X/D).log2-52
 p*4503599627370496+rhe (X/(D*2^p)) (X%(D*2^p)) (D*2^p)
theorem nearR_is {X D:Nat}(hD:0<D):IsNear X D (nearR X D):=by
 unfold nearR
 have hmd:=Nat.div_add_mod X D
 have hml:=Nat.mod_lt X hD
 refine near_of hD ?_ ?_
 ·have h1:X/D<2^((X/D).log2-52)*9007199254740992:=by
   by_cases h0:X/D=0
   ·rw [h0];exact Nat.mul_pos (Nat.two_pow_pos _) (by decide)
   ·have h2:X/D<2^((X/D).log2+1):=Nat.lt_log2_self
    refine Nat.lt_of_lt_of_le h2 ?_
    rw [show (9007199254740992:Nat)=2^53 from rfl,←Nat.pow_add]
    exact Nat.pow_le_pow_right (by decide) (by omega)
  rw [Nat.mul_assoc]
  rw [Nat.mul_comm]
  exact (Nat.div_lt_iff_lt_mul hD).1 h1
 ·by_cases hp:(X/D).log2-52=0
  ·exact Or.inl hp
  ·right
   have h0:X/D≠0:=fun h=>hp (by rw [h];rfl)
   have h2:2^(X/D).log2≤X/D:=Nat.log2_self_le h0
   have h3:2^((X/D).log2-52)*4503599627370496≤X/D:=by
    rw [show (4503599627370496:Nat)=2^52 from rfl,←Nat.pow_add,show (X/D).log2-52+52=(X/D).log2 by omega]
    exact h2
   rw [Nat.mul_assoc,Nat.mul_comm]
   exact (Nat.le_div_iff_mul_le hD).1 h3
theorem nearR_eq {X D r:Nat}(hD:0<D) (h:IsNear X D r):nearR X D=r:=(nearR_is hD).uniq hD h
theorem IsNear.self {D r:Nat}(hD:0<D):IsNear (D*rv r) D r:=by
 refine⟨fun s hs=>?_,?_,fun h=>?_⟩
 ·have h1:rv s<rv r:=rv_lt (by omega)
  have h2:D*(rv s+rv r)<D*(2*rv r):=(Nat.mul_lt_mul_left hD).2 (by omega)
  have e:D*(2*rv r)=2*(D*rv r):=Nat.mul_left_comm _ _ _
  exact⟨by omega,fun h=>by omega⟩
 ·have h1:=rv_lt_succ r
  have h2:D*(2*rv r)≤D*(rv r+rv (r+1)):=Nat.mul_le_mul_left D (by omega)
  have e:D*(2*rv r)=2*(D*rv r):=Nat.mul_left_comm _ _ _
  omega
 ·have h1:=rv_lt_succ r
  have h2:D*(2*rv r)<D*(rv r+rv (r+1)):=(Nat.mul_lt_mul_left hD).2 (by omega)
  have e:D*(2*rv r)=2*(D*rv r):=Nat.mul_left_comm _ _ _
  omega
theorem nearR_self {D r:Nat}(hD:0<D):nearR (D*rv r) D=r:=nearR_eq hD (IsNear.self hD)
theorem nearR_ge {X D s:Nat}(hD:0<D) (he:(s+1)%2=0):s+1≤nearR X D↔D*(rv s+rv (s+1))≤2*X:=by
 have h:=nearR_is (X:=X) hD
 constructor
 ·intro hle
  obtain⟨t,ht⟩:∃t,nearR X D=t+1:=⟨nearR X D-1,by omega⟩
  rw [ht] at h hle
  have h1:=(h.lo t rfl).1
  have h2:rv s≤rv t:=rv_le (by omega)
  have h3:rv (s+1)≤rv (t+1):=rv_le (by omega)
  exact Nat.le_trans (Nat.mul_le_mul_left D (by omega)) h1
 ·intro hle
  refine Nat.le_of_not_lt fun hlt=>?_
  have h1:=h.hi.1
  have h2:rv (nearR X D)≤rv s:=rv_le (by omega)
  have h3:rv (nearR X D+1)≤rv (s+1):=rv_le (by omega)
  have h4:D*(rv (nearR X D)+rv (nearR X D+1))≤D*(rv s+rv (s+1)):=Nat.mul_le_mul_left D (by omega)
  have e:rv (nearR X D)+rv (nearR X D+1)=rv s+rv (s+1):=Nat.eq_of_mul_eq_mul_left hD (by omega)
  have e2:nearR X D=s:=rv_inj (by omega)
  have h5:=h.hi.2 (by omega)
  omega
theorem rhe_scale {m R G k:Nat}(hk:0<k):rhe m (R*k) (G*k)=rhe m R G:=by
 unfold rhe
 have e1:(G*k<2*(R*k))↔(G<2*R):=by rw [←Nat.mul_assoc];exact Nat.mul_lt_mul_right hk
 have e2:(G*k=2*(R*k))↔(G=2*R):=by rw [←Nat.mul_assoc];exact⟨fun h=>Nat.eq_of_mul_eq_mul_right hk h,fun h=>by rw [h]⟩
 simp only [e1,e2]
theorem near_code {X D N E d p:Nat}(hD:0<D) (hE:0<E) (hd:0<d) (hx:N*2^p*D=X*(E*2^d)) (h1:blen (N/E)≤d+53) (h2:p=0∨blen (N/E)=d+53):
  nearR X D=p*4503599627370496+(if 2^(d-1)<N/E%2^d∨(N/E%2^d=2^(d-1)∧(N%E≠0∨N/E/2^d%2=1)) then N/E/2^d+1 else N/E/2^d):=by
 have hH:0<2^d:=Nat.two_pow_pos d
 have hP:0<2^p:=Nat.two_pow_pos p
 have hG:0<E*2^d:=Nat.mul_pos hE hH
 have eN:=Nat.div_add_mod N E
 have hR:=Nat.mod_lt N hE
 have eq:=Nat.div_add_mod (N/E) (2^d)
 have hC:=Nat.mod_lt (N/E) hH
 have hdd:N/(E*2^d)=N/E/2^d:=by rw [Nat.div_div_eq_div_mul]
 have hmm:N%(E*2^d)=E*(N/E%2^d)+N%E:=by
  have e3:=Nat.div_add_mod N (E*2^d)
  rw [hdd] at e3
  have e4:E*(N/E)=E*2^d*(N/E/2^d)+E*(N/E%2^d):=by
   rw [Nat.mul_assoc,←Nat.mul_add,eq]
  omega
 have hhalf:2^d=2*2^(d-1):=by
  obtain⟨c,rfl⟩:∃c,d=c+1:=⟨d-1,by omega⟩
  rw [Nat.pow_succ',Nat.add_sub_cancel]
 have key:rhe (N/(E*2^d)) (N%(E*2^d)) (E*2^d)=(if 2^(d-1)<N/E%2^d∨(N/E%2^d=2^(d-1)∧(N%E≠0∨N/E/2^d%2=1)) then N/E/2^d+1 else N/E/2^d):=by
  unfold rhe
  rw [hdd,hmm]
  generalize N/E%2^d=c at*
  generalize N/E/2^d=m0 at*
  generalize N%E=r at*
  rw [hhalf]
  generalize 2^(d-1)=hf at*
  have e0:E*(2*hf)=2*(E*hf):=Nat.mul_left_comm _ _ _
  rw [e0]
  rcases Nat.lt_trichotomy c hf with hc | hc | hc
  ·have h3:E*(c+1)≤E*hf:=Nat.mul_le_mul_left E hc
   rw [Nat.mul_add,Nat.mul_one] at h3
   rw [if_neg (by omega),if_neg (by omega)]
  ·subst hc
   by_cases h:r≠0∨m0%2=1
   ·rw [if_pos (by omega),if_pos (by omega)]
   ·rw [if_neg (by omega),if_neg (by omega)]
  ·have h3:E*(hf+1)≤E*c:=Nat.mul_le_mul_left E hc
   rw [Nat.mul_add,Nat.mul_one] at h3
   rw [if_pos (by omega),if_pos (Or.inl hc)]
 rw [←key]
 have e5:E*2^d*2^p=E*2^d*2^p:=rfl
 have hq1:N/E<2^d*9007199254740992:=by
  refine Nat.lt_of_lt_of_le (lt_blen _) ?_
  rw [show (9007199254740992:Nat)=2^53 from rfl,←Nat.pow_add]
  exact Nat.pow_le_pow_right (by decide) h1
 have hX1:N<E*2^d*9007199254740992:=by
  rw [Nat.mul_assoc,Nat.mul_comm]
  exact (Nat.div_lt_iff_lt_mul hE).1 hq1
 have hn:=near_of (X:=N*2^p) (D:=E*2^d) (p:=p) hG (by
  rw [Nat.mul_right_comm]
  exact (Nat.mul_lt_mul_right hP).2 hX1) (by
  rcases h2 with h | h
  ·exact Or.inl h
  ·right
   have hq0:N/E≠0:=fun e=>by rw [e,blen_zero] at h;omega
   have h3:=blen_le_self hq0
   have h4:2^d*4503599627370496≤N/E:=by
    rw [show (4503599627370496:Nat)=2^52 from rfl,←Nat.pow_add]
    rw [h] at h3
    exact h3
   rw [Nat.mul_right_comm]
   refine Nat.mul_le_mul_right _ ?_
   rw [Nat.mul_assoc,Nat.mul_comm]
   exact (Nat.le_div_iff_mul_le hE).1 h4)
 rw [Nat.mul_div_mul_right _ _ hP,Nat.mul_mod_mul_right,rhe_scale hP] at hn
 exact nearR_eq hD (hn.cross hG hD hx)
theorem near_tiny {X D:Nat}(hD:0<D) (h:2*X<D):nearR X D=0:=by
 refine nearR_eq hD ⟨fun s hs=>by omega,?_,fun h2=>?_⟩
 ·rw [rv_low (by omega),rv_low (by omega)];omega
 ·rfl
theorem e98_45:(2:Nat)^e98=9007199254740992*2^e45:=by
 have h:e98=53+e45:=by rw [e98_eq,e45_eq]
 rw [h,Nat.pow_add]
theorem rung45 {p:Nat}(h:p=2045):p*4503599627370496+9007199254740991=9218868437227405311:=by subst h;decide
theorem rung46 {p:Nat}(h:p=2046):p*4503599627370496+4503599627370496=9218868437227405312:=by subst h;decide
theorem rv_top:rv 9218868437227405311=9007199254740991*2^e45:=by
 have h:=rv_form (p:=e45) (m:=9007199254740991) (Or.inr (by decide)) (by decide)
 rw [rung45 e45_eq] at h
 exact h
theorem rv_inf:rv 9218868437227405312=2^e98:=by
 have h:=rv_form (p:=e46) (m:=4503599627370496) (Or.inr (by decide)) (by decide)
 rw [rung46 e46_eq] at h
 have e:e46=e45+1:=by rw [e46_eq,e45_eq]
 rw [h,e98_45,e,Nat.pow_succ]
 omega
theorem near_huge {X D:Nat}(hD:0<D) (h:D*(2^e98*2)≤X):9218868437227405312≤nearR X D:=by
 have h1:(9218868437227405311+1)≤nearR X D↔_:=nearR_ge hD (by decide)
 refine h1.2 ?_
 rw [show 9218868437227405311+1=9218868437227405312 from rfl,rv_top,rv_inf,e98_45]
 rw [e98_45] at h
 have h3:D*(9007199254740991*2^e45+9007199254740992*2^e45)≤D*(9007199254740992*2^e45*2):=Nat.mul_le_mul_left D (by omega)
 omega
theorem blen_quot {N E:Nat}(hE:0<E) (h:blen N=blen E+55):blen (N/E)=55∨blen (N/E)=56:=by
 have hN:N≠0:=fun e=>by rw [e,blen_zero] at h;omega
 have h1:=blen_le_self hN
 have h2:=lt_blen N
 have h3:=blen_le_self (n:=E) (by omega)
 have h4:=lt_blen E
 have hb:blen E≠0:=fun e=>by have:=blen_eq_zero.1 e;omega
 have hlo:2^54≤N/E:=by
  refine (Nat.le_div_iff_mul_le hE).2 (Nat.le_trans (Nat.mul_le_mul_left _ (Nat.le_of_lt h4)) ?_)
  rw [←Nat.pow_add]
  exact Nat.le_trans (Nat.pow_le_pow_right (by decide) (by omega)) h1
 have hhi:N/E<2^56:=by
  refine (Nat.div_lt_iff_lt_mul hE).2 (Nat.lt_of_lt_of_le h2 ?_)
  refine Nat.le_trans ?_ (Nat.mul_le_mul_left _ h3)
  rw [←Nat.pow_add]
  exact Nat.pow_le_pow_right (by decide) (by omega)
 by_cases hc:N/E<2^55
 ·exact Or.inl (blen_unique hc (Or.inr hlo))
 ·exact Or.inr (blen_unique hhi (Or.inr (by omega)))
theorem blen_shl {n s:Nat}(h:n≠0):blen (n*2^s)=blen n+s:=by
 refine blen_unique ?_ (Or.inr ?_)
 ·rw [Nat.pow_add];exact (Nat.mul_lt_mul_right (Nat.two_pow_pos s)).2 (lt_blen n)
 ·have hb:blen n≠0:=fun e=>h (blen_eq_zero.1 e)
  rw [show blen n+s-1=(blen n-1)+s by omega,Nat.pow_add]
  exact Nat.mul_le_mul_right _ (blen_le_self h)
def nearB (X D:Nat):Nat:=min (nearR X D) 9218868437227405312
def dgs:Nat→Nat→List Nat
 | 0,_=> []
 | n+1,v=>dgs n (v/10)++ [48+v%10]
theorem dgs_len:∀n v,(dgs n v).length=n
 | 0,_=>rfl
 | n+1,v=>by simp [dgs,dgs_len n]
theorem dgs_get:∀{n v i:Nat},i<n→(dgs n v).getD i 0=48+v/10^(n-1-i)%10
 | 0,_,_,h=>absurd h (Nat.not_lt_zero _)
 | n+1,v,i,h=>by
  have hl:=dgs_len n (v/10)
  rw [dgs,List.getD_eq_getElem?_getD]
  by_cases hi:i<n
  ·rw [List.getElem?_append_left (by omega),←List.getD_eq_getElem?_getD,dgs_get hi,Nat.div_div_eq_div_mul,←Nat.pow_succ',show (n-1-i).succ=n+1-1-i by omega]
  ·have e:i=n:=by omega
   subst e
   rw [List.getElem?_append_right (by omega),hl,Nat.sub_self,Nat.add_sub_cancel,Nat.sub_self,Nat.pow_zero,Nat.div_one]
   rfl
theorem dgs_digit {n v c:Nat}(h:c∈dgs n v):48≤c∧c≤57:=by
 induction n generalizing v with
 | zero=>cases h
 | succ n ih=>
  rw [dgs] at h
  rcases List.mem_append.1 h with h | h
  ·exact ih h
  ·rw [List.mem_singleton] at h;omega
theorem dv_digit {c:Nat}(h:48≤c∧c≤57):dv c=c-48:=by unfold dv;rw [if_pos h]
theorem dgs_vald : ∀ {n v : Nat}, v < 10 ^ n → vald 10 ((dgs n v).map dv) = v
  | 0, v, h => by rw [Nat.pow_zero] at h; have : v = 0 := by omega
                  subst this; rfl
  | n + 1, v, h => by
    rw [dgs, List.map_append, List.map_cons, List.map_nil, vald_snoc, dgs_vald (by rw [Nat.pow_succ] at h; omega), dv_digit ⟨by omega, by omega⟩]
    omega
theorem list_ext0 {l r:List Nat}(h:l.length=r.length) (hg:∀i,i<l.length→l.getD i 0=r.getD i 0):l=r:=by
 refine List.ext_getElem h fun i h1 h2=>?_
 have:=hg i h1
 rw [List.getD_eq_getElem?_getD,List.getD_eq_getElem?_getD,List.getElem?_eq_getElem h1,List.getElem?_eq_getElem h2] at this
 exact this
theorem dig_parts (v k:Nat):v=v/10^(k+1)*10^(k+1)+v/10^k%10*10^k+v%10^k:=by
 have h1:=Nat.div_add_mod v (10^k)
 have h2:=Nat.div_add_mod (v/10^k) 10
 rw [Nat.div_div_eq_div_mul,←Nat.pow_succ] at h2
 have h3:v/10^(k+1)*10^(k+1)=10^k*(10*(v/10^(k+1))):=by rw [Nat.pow_succ];grind
 have h4:10^k*(v/10^k)=10^k*(10*(v/10^(k+1)))+10^k*(v/10^k%10):=by
  rw [←Nat.mul_add,h2]
 have h5:=Nat.mul_comm (10^k) (v/10^k%10)
 omega
theorem dig_of {h c l k j:Nat}(hc:c<10) (hl:l<10^k):(h*10^(k+1)+c*10^k+l)/10^j%10=if j=k then c else if k<j then h/10^(j-k-1)%10 else l/10^j%10:=by
 have hp:0<10^k:=Nat.pow_pos (by decide)
 have e0:h*10^(k+1)+c*10^k+l=(h*10+c)*10^k+l:=by rw [Nat.pow_succ];grind
 have hd:((h*10+c)*10^k+l)/10^k=h*10+c:=by
  rw [Nat.mul_comm,Nat.mul_add_div hp,Nat.div_eq_of_lt hl,Nat.add_zero]
 rw [e0]
 split
 ·rename_i e;subst e
  rw [hd];omega
 ·split
  ·rename_i h1 h2
   obtain⟨d,rfl⟩:∃d,j=k+1+d:=⟨j-k-1,by omega⟩
   rw [show k+1+d-k-1=d by omega,Nat.pow_add,Nat.pow_succ,Nat.mul_assoc,←Nat.div_div_eq_div_mul,hd,←Nat.div_div_eq_div_mul,show (h*10+c)/10=h by omega]
  ·rename_i h1 h2
   obtain⟨d,rfl⟩:∃d,k=j+1+d:=⟨k-j-1,by omega⟩
   have hj:0<10^j:=Nat.pow_pos (by decide)
   have e:(h*10+c)*10^(j+1+d)+l=10^j*(10*((h*10+c)*10^d))+l:=by rw [Nat.pow_add,Nat.pow_succ];grind
   rw [e,Nat.mul_add_div hj]
   omega
theorem dgs_set {n v k c:Nat}(hk:k<n) (hc:c<10):(dgs n v).set (n-1-k) (48+c)=dgs n (v/10^(k+1)*10^(k+1)+c*10^k+v%10^k):=by
 refine list_ext0 (by rw [List.length_set,dgs_len,dgs_len]) fun i hi=>?_
 rw [List.length_set,dgs_len] at hi
 have hl:v%10^k<10^k:=Nat.mod_lt _ (Nat.pow_pos (by decide))
 rw [dgs_get hi,dig_of hc hl]
 by_cases e:n-1-k=i
 ·subst e
  rw [List.getD_eq_getElem?_getD,List.getElem?_set_self (by rw [dgs_len];omega),if_pos (by omega)];rfl
 ·rw [List.getD_eq_getElem?_getD,List.getElem?_set_ne e,←List.getD_eq_getElem?_getD,dgs_get hi,if_neg (by omega)]
  have hv:=dig_parts v k
  have:=dig_of (h:=v/10^(k+1)) (c:=v/10^k%10) (l:=v%10^k) (k:=k) (j:=n-1-i) (by omega) hl
  rw [←hv,if_neg (by omega)] at this
  rw [this]
theorem up_step9 {v k:Nat}(h9:v%10^k=10^k-1) (hc:v/10^k%10=9):v%10^(k+1)=10^(k+1)-1:=by
 have hp:0<10^k:=Nat.pow_pos (by decide)
 have h1:=dig_parts v k
 have h2:=Nat.div_add_mod v (10^(k+1))
 have h3:=Nat.mul_comm (10^(k+1)) (v/10^(k+1))
 rw [hc,h9] at h1
 have h4:10^(k+1)=10*10^k:=by rw [Nat.pow_succ];omega
 omega
theorem up_low {v k:Nat}(h9:v%10^k=10^k-1) (hc:v/10^k%10<9){u:Nat}(hu:u=v-(10^k-1)):u/10^(k+1)*10^(k+1)+(v/10^k%10+1)*10^k+u%10^k=v+1∧u/10^k%10=v/10^k%10:=by
 have hp:0<10^k:=Nat.pow_pos (by decide)
 have h1:=dig_parts v k
 have eu:u=v/10^(k+1)*10^(k+1)+v/10^k%10*10^k+0:=by omega
 have hd:=fun j=>dig_of (h:=v/10^(k+1)) (c:=v/10^k%10) (l:=0) (k:=k) (j:=j) (by omega) hp
 have h5:u/10^k%10=v/10^k%10:=by
  have:=hd k
  rw [←eu,if_pos rfl] at this;exact this
 have h6:u%10^k=0:=by
  rw [eu,Nat.add_zero,Nat.pow_succ,←Nat.mul_assoc,Nat.mul_right_comm,←Nat.add_mul]
  exact Nat.mul_mod_left _ _
 have h7:=dig_parts u k
 rw [h5,h6] at h7
 have h8:(v/10^k%10+1)*10^k=v/10^k%10*10^k+10^k:=Nat.succ_mul _ _
 refine⟨by omega,h5⟩
theorem up_zero {v k:Nat}(h9:v%10^k=10^k-1) (hc:v/10^k%10=9){u:Nat}(hu:u=v-(10^k-1)):u/10^(k+1)*10^(k+1)+0*10^k+u%10^k=v-(10^(k+1)-1)∧u/10^k%10=9:=by
 have hp:0<10^k:=Nat.pow_pos (by decide)
 have h1:=dig_parts v k
 have eu:u=v/10^(k+1)*10^(k+1)+v/10^k%10*10^k+0:=by omega
 have hd:=fun j=>dig_of (h:=v/10^(k+1)) (c:=v/10^k%10) (l:=0) (k:=k) (j:=j) (by omega) hp
 have h5:u/10^k%10=v/10^k%10:=by
  have:=hd k
  rw [←eu,if_pos rfl] at this;exact this
 have h6:u%10^k=0:=by
  rw [eu,Nat.add_zero,Nat.pow_succ,←Nat.mul_assoc,Nat.mul_right_comm,←Nat.add_mul]
  exact Nat.mul_mod_left _ _
 have h7:=dig_parts u k
 rw [h5,h6,hc] at h7
 rw [hc] at h1
 have h4:10^(k+1)=10*10^k:=by rw [Nat.pow_succ];omega
 refine⟨by omega,by omega⟩
theorem dgs_mod {n v:Nat}:dgs n (v%10^n)=dgs n v:=by
 refine list_ext0 (by rw [dgs_len,dgs_len]) fun i hi=>?_
 rw [dgs_len] at hi
 rw [dgs_get hi,dgs_get hi]
 have hl:v%10^(n-1-i)<10^(n-1-i):=Nat.mod_lt _ (Nat.pow_pos (by decide))
 obtain⟨k,e⟩:∃k,k=n-1-i:=⟨_,rfl⟩
 rw [←e]
 obtain⟨d,rfl⟩:∃d,n=k+1+d:=⟨n-k-1,by omega⟩
 have h1:10^(k+1+d)=10^k*(10*10^d):=by rw [Nat.pow_add,Nat.pow_succ];grind
 rw [h1,Nat.mod_mul_right_div_self,Nat.mod_mul_right_mod]
theorem txtN_dgs:∀{n m:Nat},0<m→10^n≤m→m<10^(n+1)→txtN 10 m=dgs (n+1) m
 | 0,m,h0,h1,h2=>by
  have hm:m<10:=by simpa using h2
  have e:=db_push (b:=10) (v:=0) (d:=m) (by decide) hm (by omega)
  rw [Nat.zero_mul,Nat.zero_add] at e
  have e0:db 10 0= []:=rfl
  rw [txtN,if_neg (by omega),e,e0]
  show [sgn m]= [48+m%10]
  rw [Nat.mod_eq_of_lt hm,sgn,if_pos hm]
 | n+1,m,h0,h1,h2=>by
  have hp:0<10^n:=Nat.pow_pos (by decide)
  have hq1:10^n≤m/10:=by rw [Nat.pow_succ] at h1;omega
  have hq2:m/10<10^(n+1):=by rw [Nat.pow_succ] at h2;omega
  have ih:=txtN_dgs (m:=m/10) (by omega) hq1 hq2
  have e:=db_push (b:=10) (v:=m/10) (d:=m%10) (by decide) (Nat.mod_lt _ (by decide)) (by omega)
  rw [show m/10*10+m%10=m by omega] at e
  rw [txtN,if_neg (by omega)] at ih
  rw [txtN,if_neg (by omega),e,dgs,←ih]
  show ((m%10)::db 10 (m/10)).reverse.map sgn=_
  rw [List.reverse_cons,List.map_append]
  show txt (db 10 (m/10))++ [sgn (m%10)]=_
  rw [sgn,if_pos (Nat.mod_lt _ (by decide))]
theorem digits_ex:∀m:Nat,0<m→∃n,10^n≤m∧m<10^(n+1):=by
 intro m
 induction m using Nat.strongRecOn with
 | _ m ih=>
  intro h
  by_cases h1:m<10
  ·exact⟨0,by rw [Nat.pow_zero];exact h,by simpa using h1⟩
  ·obtain⟨n,h2,h3⟩:=ih (m/10) (by omega) (by omega)
   refine⟨n+1,?_,?_⟩
   ·rw [Nat.pow_succ];omega
   ·rw [Nat.pow_succ];omega
def rn:List Nat→Nat
 | []=>0
 | c::r=>if 48≤c∧c≤57 then rn r+1 else 0
theorem rn_le:∀l,rn l≤l.length
 | []=>Nat.le_refl _
 | c::r=>by
  have:=rn_le r
  unfold rn
  split <;> simp <;> omega
theorem rn_get:∀{l:List Nat}{i:Nat},i<rn l→48≤l.getD i 0∧l.getD i 0≤57
 | [],i,h=>absurd h (Nat.not_lt_zero _)
 | c::r,i,h=>by
  unfold rn at h
  split at h
  ·rename_i hc
   cases i with
   | zero=>exact hc
   | succ i=>simpa using rn_get (l:=r) (i:=i) (by omega)
  ·exact absurd h (Nat.not_lt_zero _)
theorem rn_stop:∀l:List Nat,¬(48≤l.getD (rn l) 0∧l.getD (rn l) 0≤57)
 | []=>by decide
 | c::r=>by
  have:=rn_stop r
  unfold rn
  split
  ·simpa using this
  ·rename_i h;exact h
theorem rn_eq {l:List Nat}{n:Nat}(hd:∀i,i<n→48≤l.getD i 0∧l.getD i 0≤57) (hs:¬(48≤l.getD n 0∧l.getD n 0≤57)):rn l=n:=by
 rcases Nat.lt_trichotomy (rn l) n with h | h | h
 ·exact absurd (hd _ h) (rn_stop l)
 ·exact h
 ·exact absurd (rn_get h) hs
theorem getD_out {l:List Nat}{i:Nat}(h:l.length≤i):l.getD i 0=0:=by
 rw [List.getD_eq_getElem?_getD,List.getElem?_eq_none h];rfl
theorem getD_appR {l r:List Nat}{i:Nat}:(l++r).getD (l.length+i) 0=r.getD i 0:=by
 rw [List.getD_eq_getElem?_getD,List.getElem?_append_right (Nat.le_add_right _ _),Nat.add_sub_cancel_left,←List.getD_eq_getElem?_getD]
theorem getD_appL {l r:List Nat}{i:Nat}(h:i<l.length):(l++r).getD i 0=l.getD i 0:=by
 rw [List.getD_eq_getElem?_getD,List.getElem?_append_left h,←List.getD_eq_getElem?_getD]
theorem getD_mem0 {l:List Nat}{i:Nat}(h:i<l.length):l.getD i 0∈l:=by
 rw [List.getD_eq_getElem?_getD,List.getElem?_eq_getElem h];exact List.getElem_mem h
theorem rn_app {ds r:List Nat}(hd:∀c,c∈ds→48≤c∧c≤57) (hr:¬(48≤r.getD 0 0∧r.getD 0 0≤57)):rn (ds++r)=ds.length:=by
 refine rn_eq (fun i hi=>?_) ?_
 ·rw [getD_appL hi];exact hd _ (getD_mem0 hi)
 ·have:=getD_appR (l:=ds) (r:=r) (i:=0)
  rw [Nat.add_zero] at this
  rw [this];exact hr
theorem rn_take {l:List Nat}{c:Nat}(h:c∈l.take (rn l)):48≤c∧c≤57:=by
 obtain⟨i,hi,rfl⟩:=List.mem_iff_getElem.1 h
 rw [List.length_take] at hi
 have:=rn_get (l:=l) (i:=i) (by omega)
 rw [List.getElem_take]
 rw [List.getD_eq_getElem?_getD,List.getElem?_eq_getElem (by omega)] at this
 exact this
def sgT (l:List Nat):Bool:=decide (l.getD 0 0=45)
def rsT (l:List Nat):List Nat:=if l.getD 0 0=45∨l.getD 0 0=43 then l.drop 1 else l
theorem rsT_len (l:List Nat):(rsT l).length≤l.length:=by
 unfold rsT;split
 ·rw [List.length_drop];omega
 ·exact Nat.le_refl _
theorem rsT_mem {l:List Nat}{c:Nat}(h:c∈rsT l):c∈l:=by
 unfold rsT at h;split at h
 ·exact List.mem_of_mem_drop h
 ·exact h
def cutE (l:List Nat):Option (Bool×List Nat):=
 if l.getD 0 0=101∨l.getD 0 0=69 then
  (if rn (rsT (l.drop 1))=0 then none else if (rsT (l.drop 1)).drop (rn (rsT (l.drop 1)))= [] then some (sgT (l.drop 1),(rsT (l.drop 1)).take (rn (rsT (l.drop 1)))) else none)
 else if l= [] then some (false,[]) else none
def cutD (l:List Nat):Option (List Nat×Nat×Bool×List Nat):=
 if l.getD 0 0=46 then
  (if rn (l.drop 1)=0 then none else (cutE (l.drop (rn (l.drop 1)+1))).map fun x=>((l.take (rn (l.drop 1)+1)).drop 1,rn (l.drop 1),x.1,x.2))
 else (cutE l).map fun x=>([],0,x.1,x.2)
def cutF (l:List Nat):Option (List Nat×Nat×Bool×List Nat):=
 if rn (rsT l)=0 then none else (cutD ((rsT l).drop (rn (rsT l)))).map fun x=>((rsT l).take (rn (rsT l))++x.1,x.2.1,x.2.2.1,x.2.2.2)
def Digs (l:List Nat):Prop:=∀c,c∈l→48≤c∧c≤57
theorem Digs.app {a b:List Nat}(ha:Digs a) (hb:Digs b):Digs (a++b):=fun c hc=>(List.mem_append.1 hc).elim (ha c) (hb c)
theorem Digs.good {l:List Nat}(h:Digs l) (h0:l≠ []):Good 10 l:=⟨h0,fun c hc=>by rw [dv_digit (h c hc)];have:=h c hc;omega⟩
theorem cutE_digs {l:List Nat}{x:Bool×List Nat}(h:cutE l=some x):Digs x.2∧x.2.length≤l.length:=by
 unfold cutE at h
 split at h
 ·split at h
  ·cases h
  ·split at h
   ·rw [Option.some.injEq] at h;subst h
    refine⟨fun c hc=>rn_take hc,?_⟩
    have:=rsT_len (l.drop 1)
    rw [List.length_drop] at this
    simp only [List.length_take]
    omega
   ·cases h
 ·split at h
  ·rw [Option.some.injEq] at h;subst h;exact⟨fun c hc=>(by cases hc),by simp⟩
  ·cases h
theorem cutD_digs {l:List Nat}{x:List Nat×Nat×Bool×List Nat}(h:cutD l=some x):Digs x.1∧x.1.length=x.2.1∧Digs x.2.2.2∧x.1.length+x.2.2.2.length≤l.length:=by
 unfold cutD at h
 split at h
 ·split at h
  ·cases h
  ·obtain⟨y,hy,rfl⟩:=Option.map_eq_some_iff.1 h
   obtain⟨h1,h2⟩:=cutE_digs hy
   have h3:=rn_le (l.drop 1)
   rw [List.length_drop] at h3
   rw [List.length_drop] at h2
   have e:(l.take (rn (l.drop 1)+1)).drop 1=(l.drop 1).take (rn (l.drop 1)):=by rw [List.drop_take];rfl
   refine⟨fun c hc=>rn_take (e▸hc),?_,h1,?_⟩
   ·simp only [List.length_drop,List.length_take];omega
   ·simp only [List.length_drop,List.length_take];omega
 ·obtain⟨y,hy,rfl⟩:=Option.map_eq_some_iff.1 h
  obtain⟨h1,h2⟩:=cutE_digs hy
  exact⟨fun c hc=>(by cases hc),rfl,h1,by simpa using h2⟩
theorem cutF_digs {l dg pw:List Nat}{bh:Nat}{dn:Bool}(h:cutF l=some (dg,bh,dn,pw)):Digs dg∧dg≠ []∧Digs pw∧bh≤l.length∧dg.length≤l.length∧pw.length≤l.length:=by
 unfold cutF at h
 split at h
 ·cases h
 ·rename_i h0
  obtain⟨y,hy,e⟩:=Option.map_eq_some_iff.1 h
  obtain⟨h1,h2,h3,h4⟩:=cutD_digs hy
  have hr:=rsT_len l
  have hn:=rn_le (rsT l)
  rw [List.length_drop] at h4
  simp only [Prod.mk.injEq] at e
  obtain⟨rfl,rfl,rfl,rfl⟩:=e
  refine⟨Digs.app (fun c hc=>rn_take hc) h1,fun e=>?_,h3,by omega,?_,by omega⟩
  ·have:=congrArg List.length e
   simp only [List.length_append,List.length_take,List.length_nil] at this
   omega
  ·simp only [List.length_append,List.length_take];omega
theorem cutE_exp {ng:Bool}{ds:List Nat}(h:Digs ds) (h0:ds≠ []){e:Nat}(he:e=101∨e=69):cutE (e::((if ng then [45] else [])++ds))=some (ng,ds):=by
 have hr:rn (ds++ [])=ds.length:=rn_app h (by decide)
 rw [List.append_nil] at hr
 have hl:ds.length≠0:=fun e=>h0 (List.length_eq_zero_iff.1 e)
 have hd0:48≤ds.getD 0 0∧ds.getD 0 0≤57:=h _ (getD_mem0 (by omega))
 have hrs:rsT ((if ng=true then [45] else [])++ds)=ds:=by
  cases ng
  ·show rsT ds=ds
   unfold rsT;rw [if_neg (by omega)]
  ·rfl
 have hsg:sgT ((if ng=true then [45] else [])++ds)=ng:=by
  cases ng
  ·show sgT ds=false
   unfold sgT;exact decide_eq_false (by omega)
  ·rfl
 unfold cutE
 rw [if_pos (show (e::((if ng=true then [45] else [])++ds)).getD 0 0=101∨(e::((if ng=true then [45] else [])++ds)).getD 0 0=69 from he)]
 have hd:(e::((if ng=true then [45] else [])++ds)).drop 1=(if ng=true then [45] else [])++ds:=rfl
 rw [hd,hrs,hr,if_neg hl,List.drop_length,if_pos rfl,List.take_length,hsg]
theorem cutD_e {l:List Nat}(h:l.getD 0 0≠46):cutD l=(cutE l).map fun x=>([],0,x.1,x.2):=by unfold cutD;rw [if_neg h]
theorem cutD_dot {ds r:List Nat}(h:Digs ds) (h0:ds≠ []) (hr:¬(48≤r.getD 0 0∧r.getD 0 0≤57)):cutD (46::(ds++r))=(cutE r).map fun x=>(ds,ds.length,x.1,x.2):=by
 have hl:ds.length≠0:=fun e=>h0 (List.length_eq_zero_iff.1 e)
 have hn:=rn_app h hr
 unfold cutD
 rw [if_pos (show (46::(ds++r)).getD 0 0=46 from rfl)]
 show (if rn (ds++r)=0 then none else (cutE ((46::(ds++r)).drop (rn (ds++r)+1))).map fun x=>(((46::(ds++r)).take (rn (ds++r)+1)).drop 1,rn (ds++r),x.1,x.2))=_
 rw [hn,if_neg hl,List.drop_succ_cons,List.drop_left,List.take_succ_cons,List.drop_succ_cons,List.drop_zero,List.take_left]
theorem cutF_of {sn:Bool}{ds r:List Nat}(h:Digs ds) (h0:ds≠ []) (hr:¬(48≤r.getD 0 0∧r.getD 0 0≤57)):cutF ((if sn then [45] else [])++(ds++r))=(cutD r).map (fun x=>(ds++x.1,x.2.1,x.2.2.1,x.2.2.2))∧sgT ((if sn then [45] else [])++(ds++r))=sn:=by
 have hl:ds.length≠0:=fun e=>h0 (List.length_eq_zero_iff.1 e)
 have hd0:48≤(ds++r).getD 0 0∧(ds++r).getD 0 0≤57:=by rw [getD_appL (by omega)];exact h _ (getD_mem0 (by omega))
 have hrs:rsT ((if sn=true then [45] else [])++(ds++r))=ds++r:=by
  cases sn
  ·show rsT (ds++r)=_
   unfold rsT;rw [if_neg (by omega)]
  ·rfl
 refine⟨?_,?_⟩
 ·unfold cutF
  rw [hrs,rn_app h hr,if_neg hl,List.drop_left,List.take_left]
 ·cases sn
  ·show sgT (ds++r)=false
   unfold sgT;exact decide_eq_false (by omega)
  ·rfl
theorem txtN_digs {m:Nat}:Digs (txtN 10 m)∧txtN 10 m≠ []:=by
 by_cases h:m=0
 ·subst h;exact⟨by unfold Digs;decide,by decide⟩
 ·obtain⟨n,h1,h2⟩:=digits_ex m (by omega)
  rw [txtN_dgs (by omega) h1 h2]
  exact⟨fun c hc=>dgs_digit hc,fun e=>by have:=congrArg List.length e;rw [dgs_len] at this;simp at this⟩
theorem vald_digs10 {m:Nat}:vald 10 ((txtN 10 m).map dv)=m:=vald_txtN (by decide) (by decide)
end Go.Proofs.YtipklngcpmkfhaaDoor

namespace Go.Proofs.YtipklngcpmkfhaaDoor
open Go.ChangeShapes Go.WideShapes Go.ChangeAt Go.RowKit
theorem strB_inj {a b:List Nat}(ha:∀x,x∈a→x<256) (hb:∀x,x∈b→x<256) (h:strB a=strB b):a=b:=by
 have hl:a.length=b.length:=by rw [←strB_size a,h,strB_size]
 refine List.ext_getElem hl fun i h1 h2=>?_
 have e1:=strB_get ha h1 (by rw [strB_size];exact h1)
 have e2:=strB_get hb h2 (by rw [strB_size];exact h2)
 have e3:((strB a)[i]'(by rw [strB_size];exact h1)).toNat=((strB b)[i]'(by rw [strB_size];exact h2)).toNat:=by
  congr 1;simp only [h]
 rw [e1,e2,List.getD_eq_getElem?_getD,List.getElem?_eq_getElem h1,List.getD_eq_getElem?_getD,List.getElem?_eq_getElem h2] at e3
 exact e3
def strE (o:BinOp) (a b:List Nat):Option Bool:=match o with
 | .eql=>some (decide (a=b))
 | .neq=>some (!decide (a=b))
 | _=>none
theorem toList_inj {a b:ByteArray}(h:a.toList=b.toList):a=b:=by
 rw [ByteArray.toList_eq,ByteArray.toList_eq] at h
 exact Go.WideShapes.bytes_inj h
section
variable {P:Program}{Q:Exit→Act→World→Prop}{n:Nat}{l:Fr}{w:World}{ops:Array Oper}{rest:List Oper}{d:Nat}{ty:TypeId}{pos:String}{af:Array Edge}{gd:Option (Nat×Bool)}
theorem run_streq {t:TypeId}{x y:Operand}{o:BinOp}{a b:List Nat}{r:Bool}(ha:∀x,x∈a→x<256) (hb:∀x,x∈b→x<256) (hr:strE o a b=some r):
  ((do eqGuard o t x y (.string (strB a)) (.string (strB b));binOp o t (.string (strB a)) (.string (strB b))):Sem Value).run P w= .ok (.bool r) w:=by
 have key:((strB a).toList==(strB b).toList)=decide (a=b):=by
  by_cases h:a=b
  ·subst h;simp
  ·rw [decide_eq_false h,beq_eq_false_iff_ne]
   exact fun e=>h (strB_inj ha hb (toList_inj e))
 cases o <;> simp only [strE,reduceCtorEq,Option.some.injEq] at hr
 ·subst hr;simp [eqGuard,binOp,Op.stringOp,key]
 ·subst hr;simp [eqGuard,binOp,Op.stringOp,key]
theorem wl_streq {o:BinOp}{t t':TypeId}{x y:Operand}{a b:List Nat}(hw:guardB ops l gd=some true) (hx:evo l x=some (.string (strB a))) (hy:evo l y=some (.string (strB b))) (ha:∀x,x∈a→x<256) (hb:∀x,x∈b→x<256) (r:Bool) (hr:strE o a b=some r) (hn:d<n)
  (h:wl P ops Q n rest ((d,.bool r)::l) w):wl P ops Q n (⟨some d,.binOp o t x y t',ty,pos,af,gd⟩::rest) l w:=
 wl_val hw hn (fun a' ha'=>by
  have e:((do eqGuard o t x y (a'.eval x) (a'.eval y);binOp o t (a'.eval x) (a'.eval y)):Sem Value).run P w= .ok (.bool r) w:=by
   rw [ha'.ev hx,ha'.ev hy];exact run_streq ha hb hr
  show ((((do eqGuard o t x y (a'.eval x) (a'.eval y);binOp o t (a'.eval x) (a'.eval y)):Sem Value)>>=fun r=>pure (Next.value r)):Sem Next).run P w=_
  rw [Sem.run_bind,e];rfl) h
end
end Go.Proofs.YtipklngcpmkfhaaDoor

namespace Go.Proofs.YtipklngcpmkfhaaDoor
open Go.RowKit
theorem strE_eql_t {a b:List Nat}(h:a=b):strE .eql a b=some true:=by simp [strE,h]
theorem strE_eql_f {a b:List Nat}(h:a≠b):strE .eql a b=some false:=by simp [strE,h]
theorem strE_neq_t {a b:List Nat}(h:a=b):strE .neq a b=some false:=by simp [strE,h]
theorem strE_neq_f {a b:List Nat}(h:a≠b):strE .neq a b=some true:=by simp [strE,h]
theorem a8_sub {A B:Int}{a b:Nat}(ha:A=(a:Int)) (hb:B=(b:Int)) (h:b≤a) (h2:a≤255):arB .sub .u8 A B=some ((a-b:Nat):Int):=by
 subst ha hb;simp only [arB,Option.some.injEq];rw [show (a:Int)-(b:Int)=((a-b:Nat):Int) by omega,IntWalk.u8_in _ ⟨by omega,by omega⟩]
theorem len_wd_dv {base:Nat}{bs:List Nat}(hbl:2≤base) (hbu:base≤36) (h:∀c,c∈bs→dv c<base):(wd (vald base (bs.map dv))).length≤bs.length:=by
 have:=len_vald (b:=base) (by omega) hbu (dig_map h)
 rwa [List.length_map] at this
theorem take_snoc4 {bs:List Nat}{i:Nat}(h:i<bs.length):bs.take (i+1)=bs.take i++ [bs.getD i 0]:=by
 rw [List.take_add_one,List.getD_eq_getElem?_getD,List.getElem?_eq_getElem h];rfl
end Go.Proofs.YtipklngcpmkfhaaDoor

namespace Go.Proofs.YtipklngcpmkfhaaDoor
def dg (e:Nat):Nat:=e-e/4
def twice:List Nat→Bool
 | []=>false
 | c::r=>(decide (c=95)&&decide (r.headD 0=95))||twice r
def mixed (l:List Nat):Prop:=∀c,c∈l→dv c<10∨c=95
theorem grp_mixed {l:List Nat}(hm:mixed l):∀b,grp b l=(if (b=false∧l.headD 95=95)∨twice l=true∨(l≠ []∧l.getLast?=some 95) then none else some (l.filter (· ≠95))):=by
 induction l with
 | nil=>
  intro b
  cases b <;> simp [grp,twice]
 | cons c r ih=>
  intro b
  have ih':=ih (fun x hx=>hm x (by simp [hx]))
  by_cases hc:c=95
  ·subst hc
   cases b with
   | false=>
    rw [grp,if_neg (fun h=>by cases h.2),if_neg (by decide),if_pos (Or.inl ⟨rfl,rfl⟩)]
   | true=>
    rw [grp,if_pos ⟨rfl,rfl⟩,ih' false]
    cases r with
    | nil=>simp [twice]
    | cons x r'=>
     have e1:(95::x::r').getLast?=(x::r').getLast?:=by simp [List.getLast?_cons_cons]
     have e2:twice (95::x::r')=(decide (x=95)||twice (x::r')):=by rw [twice];simp
     rw [e1,e2]
     have e3:(95::x::r').filter (· ≠95)=(x::r').filter (· ≠95):=by rw [List.filter_cons_of_neg (by simp)]
     rw [e3]
     by_cases hx:x=95
     ·simp [hx]
     ·simp [hx]
  ·have hd:dv c<10:=by
    rcases hm c (by simp) with h | h
    ·exact h
    ·exact absurd h hc
   rw [grp,if_neg (fun h=>hc h.1),if_pos hd,ih' true]
   have e3:(c::r).filter (· ≠95)=c::r.filter (· ≠95):=by rw [List.filter_cons_of_pos (by simp [hc])]
   have e2:twice (c::r)=twice r:=by rw [twice];simp [hc]
   rw [e3,e2]
   cases r with
   | nil=>simp [hc,twice]
   | cons x r'=>
    have e1:(c::x::r').getLast?=(x::r').getLast?:=by simp [List.getLast?_cons_cons]
    rw [e1]
    by_cases ht:twice (x::r')=true
    ·simp [ht]
    ·by_cases hl:(x::r').getLast?=some 95
     ·simp [hl]
     ·simp [ht,hl,hc]
structure Wide (d l:List Nat):Prop where
 mix:mixed l
 digits:l.filter (· ≠95)=d
 first:l.headD 95≠95
 last:l.getLast?≠some 95
theorem Wide.start {d:List Nat}(h0:d≠ []) (h:∀c,c∈d→dv c<10):Wide d d:=by
 have h95:∀c,c∈d→c≠95:=fun c hc e=>by have:=h c hc;rw [e] at this;exact absurd this (by decide)
 refine⟨fun c hc=>Or.inl (h c hc),?_,?_,?_⟩
 ·rw [List.filter_eq_self];intro c hc;simpa using h95 c hc
 ·cases d with
  | nil=>exact absurd rfl h0
  | cons x r=>exact h95 x (by simp)
 ·intro e
  exact h95 95 (List.mem_of_getLast? e) rfl
theorem Wide.put {d l:List Nat}(h:Wide d l){p:Nat}(hp:0<p) (hp2:p<l.length):Wide d (l.take p++ [95]++l.drop p):=by
 refine⟨fun c hc=>?_,?_,?_,?_⟩
 ·simp only [List.mem_append,List.mem_singleton] at hc
  rcases hc with (hc | hc) | hc
  ·exact h.mix c (List.mem_of_mem_take hc)
  ·exact Or.inr hc
  ·exact h.mix c (List.mem_of_mem_drop hc)
 ·rw [List.filter_append,List.filter_append]
  have:([95]:List Nat).filter (· ≠95)= []:=by decide
  rw [this,List.append_nil,←List.filter_append,List.take_append_drop]
  exact h.digits
 ·have h1:=h.first
  cases l with
  | nil=>simp at hp2
  | cons x r=>
   cases p with
   | zero=>omega
   | succ p=>simpa using h1
 ·obtain⟨x,hx⟩:∃x,l.getLast?=some x:=⟨_,List.getLast?_eq_some_getLast (fun e=>by rw [e] at hp2;simp at hp2)⟩
  rw [List.getLast?_append,List.getLast?_drop,if_neg (by omega),hx]
  have:=h.last
  rw [hx] at this
  simpa using this
theorem Wide.reads {d l:List Nat}(h:Wide d l) (ht:twice l=false):grp false l=some d:=by
 rw [grp_mixed h.mix,if_neg,h.digits]
 rintro (⟨_,h1⟩ | h1 | ⟨_,h1⟩)
 ·exact h.first h1
 ·rw [ht] at h1;cases h1
 ·exact h.last h1
theorem Wide.twice {d l:List Nat}(h:Wide d l) (ht:twice l=true):grp false l=none:=by
 rw [grp_mixed h.mix,if_pos (Or.inr (Or.inl ht))]
theorem Wide.behind {d l:List Nat}(h:Wide d l):grp false (l++ [95])=none:=by
 rw [grp_mixed,if_pos (Or.inr (Or.inr ⟨by simp,by simp⟩))]
 intro c hc
 rcases List.mem_append.1 hc with hc | hc
 ·exact h.mix c hc
 ·exact Or.inr (List.mem_singleton.1 hc)
end Go.Proofs.YtipklngcpmkfhaaDoor

namespace Go.Proofs.YtipklngcpmkfhaaDoor
open Go.ChangeShapes Go.WideShapes Go.ChangeAt Go.RowKit
theorem strB_extract (bs:List Nat) (i j:Nat):(strB bs).extract i j=strB ((bs.take j).drop i):=by
 refine ByteArray.ext ?_
 rw [ByteArray.data_extract]
 unfold strB
 rw [List.extract_toArray,List.extract_eq_take_drop,List.map_drop,List.map_take,List.drop_take]
theorem strB_to (bs:List Nat) (j:Nat):(strB bs).extract 0 j=strB (bs.take j):=by rw [strB_extract,List.drop_zero]
theorem strB_from (bs:List Nat) (i:Nat):(strB bs).extract i (strB bs).size=strB (bs.drop i):=by rw [strB_extract,strB_size,List.take_length]
section
variable {P:Program}{Q:Exit→Act→World→Prop}{n:Nat}{l:Fr}{w:World}{ops:Array Oper}{rest:List Oper}{d:Nat}{ty:TypeId}{pos:String}{af:Array Edge}{gd:Option (Nat×Bool)}
theorem run_sliceAt_str {t:TypeId}{s:ByteArray}{low high:Option Value}(ht:P.underlying t=some .string):(Instr.sliceAt t (.string s) low high none).run P w=(Instr.slice t (.string s) low high none).run P w:=by
 have hu:(underlying t).run P w= .ok .string w:=run_underlying ht w
 unfold Instr.sliceAt
 simp only [Sem.run_bind,hu,Result.andThen_ok]
theorem wl_strhi {x y:Operand}{t:TypeId}{bs:List Nat}{i:Nat}(hw:guardB ops l gd=some true) (hx:evo l x=some (.string (strB bs))) (hy:evo l y=some (.int .i64 (i:Int))) (ht:P.underlying t=some .string) (hi:i≤bs.length) (hn:d<n)
  (h:wl P ops Q n rest ((d,.string (strB (bs.take i)))::l) w):wl P ops Q n (⟨some d,.slice t x none (some y) none,ty,pos,af,gd⟩::rest) l w:=
 wl_val hw hn (fun a' ha=>by
  have e:(Instr.sliceAt t (a'.eval x) (Option.map a'.eval none) ((some y).map a'.eval) (Option.map a'.eval none)).run P w= .ok (.string (strB (bs.take i))) w:=by
   show (Instr.sliceAt t (a'.eval x) none (some (a'.eval y)) none).run P w=_
   rw [ha.ev hx,ha.ev hy,run_sliceAt_str ht,run_slice_string_h (ht:=ht) (kh:= .i64) (h:=(i:Int)) (h0:=by omega) (h2:=by rw [strB_size];omega),Int.toNat_natCast,strB_to]
  show ((Instr.sliceAt t (a'.eval x) (Option.map a'.eval none) ((some y).map a'.eval) (Option.map a'.eval none)>>=fun r=>pure (Next.value r):Sem Next)).run P w=_
  rw [Sem.run_bind,e];rfl) h
theorem wl_strlo {x y:Operand}{t:TypeId}{bs:List Nat}{i:Nat}(hw:guardB ops l gd=some true) (hx:evo l x=some (.string (strB bs))) (hy:evo l y=some (.int .i64 (i:Int))) (ht:P.underlying t=some .string) (hi:i≤bs.length) (hn:d<n)
  (h:wl P ops Q n rest ((d,.string (strB (bs.drop i)))::l) w):wl P ops Q n (⟨some d,.slice t x (some y) none none,ty,pos,af,gd⟩::rest) l w:=
 wl_val hw hn (fun a' ha=>by
  have e:(Instr.sliceAt t (a'.eval x) ((some y).map a'.eval) (Option.map a'.eval none) (Option.map a'.eval none)).run P w= .ok (.string (strB (bs.drop i))) w:=by
   show (Instr.sliceAt t (a'.eval x) (some (a'.eval y)) none none).run P w=_
   rw [ha.ev hx,ha.ev hy,run_sliceAt_str ht,run_slice_string_l (ht:=ht) (kl:= .i64) (l:=(i:Int)) (h0:=by omega) (h1:=by rw [strB_size];omega),Int.toNat_natCast,strB_from]
  show ((Instr.sliceAt t (a'.eval x) ((some y).map a'.eval) (Option.map a'.eval none) (Option.map a'.eval none)>>=fun r=>pure (Next.value r):Sem Next)).run P w=_
  rw [Sem.run_bind,e];rfl) h
end
end Go.Proofs.YtipklngcpmkfhaaDoor

namespace Go.Proofs.YtipklngcpmkfhaaDoor
open Go.RowKit
set_option maxHeartbeats 4000000 in
theorem rx_zTextF {w:World}{sa:Bool}{Aa:Option Addr}{na ca:Nat}{x:Int}(hx:Zi w sa Aa na ca x) (la:na≤4194304) (hS:Signs w):
    Calls Tryd.prog 21 #[.agg #[.bool sa,.slice Aa na ca]] w (Gv w (Is (.string (strB (txtZ x))))):=by
 have Lx:ln x≤4194304:=Nat.le_trans hx.ln la
 refine sx_enter Tryd.func21 rfl (n:=13) rfl (bq rfl) (args:= [.agg #[.bool sa,.slice Aa na ca]]) (cw_keep [(0,.agg #[.bool sa,.slice Aa na ca])] ⟨rfl,trivial⟩ (sr (bx [.bool sa,.slice Aa na ca] (Ext.refl w) rfl rfl rfl fun g1 v2 hb4 ge5 e3 hw1=>(mv 1 rfl (ne_ (sr (pf g1 1 rfl (by kernel_rfl) (wl_load rfl rfl (load_cell cellWords hb4 rfl) (by decide) (cl (vs:= [.slice Aa na ca]) hw1 (rx_DecF (hS.ext hw1) (hx.ext hw1).wi (by omega)) rfl (by kernel_rfl) fun xr8 v6 r8 e7 hw2=>?_)))))))))
 obtain rfl:=r8
 refine mv 1 rfl (ne_ (cw_seq (cw_seq ?_)))
 by_cases hx0:x<0
 · 
  refine cw_region (lo aggInt (hb4.ext e7) [.bool sa,.slice Aa na ca] rfl rfl rfl (cl (vs:= [.agg #[.bool sa,.slice Aa na ca]]) hw2 (g_zint_Sign (hx.ext hw2) (lx_ la rfl)) rfl (by kernel_rfl) fun xr11 v9 r11 e10 hw3=>?_))
  obtain rfl:=r11
  refine wl_cmp rfl rfl rfl true (scmp_lt_t hx0) (by decide) (ne_ (cw_true rfl (sr (mv 1 rfl (wl_op rfl rfl rfl (r:= .string (strB (([45])++(txtN 10 (Int.natAbs x))))) rfl (fun w=>str_add (a:= [45]) (b:=txtN 10 (Int.natAbs x)) (by have:=txtN_len (b:=10) (by decide) (show (wd (Int.natAbs x)).length≤4194304 from Lx);show 1+_≤_;omega)) (by decide) (mv 1 rfl (ne_ (cw_ret (eo_thenR (eo_ret [.string (strB (([45])++(txtN 10 (Int.natAbs x))))] rfl ⟨rfl,trivial⟩ ?_))))))))))
  exact⟨_,rfl,(show Value.string _= .string (strB (txtZ x)) by rw [txtZ,if_pos hx0]),hw3⟩
 · 
  refine cw_region (lo aggInt (hb4.ext e7) [.bool sa,.slice Aa na ca] rfl rfl rfl (cl (vs:= [.agg #[.bool sa,.slice Aa na ca]]) hw2 (g_zint_Sign (hx.ext hw2) (lx_ la rfl)) rfl (by kernel_rfl) fun xr14 v12 r14 e13 hw3=>?_))
  obtain rfl:=r14
  refine wl_cmp rfl rfl rfl false (scmp_lt_f (by omega)) (by decide) (ne_ (cw_false rfl (cw_skip (eo_then (sr (mv 2 rfl (ne_ (cw_ret (eo_ret [.string (strB (txtN 10 (Int.natAbs x)))] rfl ⟨rfl,trivial⟩ ?_)))))))))
  exact⟨_,rfl,(show Value.string _= .string (strB (txtZ x)) by rw [txtZ,if_neg hx0]),hw3⟩
section
variable {P:Program}{Q:Exit→Act→World→Prop}{n:Nat}{l:Fr}{w:World}{ops:Array Oper}{rest:List Oper}{d:Nat}{ty:TypeId}{pos:String}{af:Array Edge}{gd:Option (Nat×Bool)}
theorem fl_strlo {a:Operand→Value}{dst:Option Tmp}{x y:Operand}{t:TypeId}{bs:List Nat}{i:Nat}(hx:a x= .string (strB bs)) (hy:a y= .int .i64 (i:Int)) (ht:P.underlying t=some .string) (hi:i≤bs.length):
  (execOp a ⟨dst,.slice t x (some y) none none,ty,pos,af,gd⟩).run P w= .ok (.value (.string (strB (bs.drop i)))) w:=by
 have e:(Instr.sliceAt t (a x) ((some y).map a) (Option.map a none) (Option.map a none)).run P w= .ok (.string (strB (bs.drop i))) w:=by
  show (Instr.sliceAt t (a x) (some (a y)) none none).run P w=_
  rw [hx,hy,run_sliceAt_str ht,run_slice_string_l (ht:=ht) (kl:= .i64) (l:=(i:Int)) (h0:=by omega) (h1:=by rw [strB_size];omega),Int.toNat_natCast,strB_from]
 show ((Instr.sliceAt t (a x) ((some y).map a) (Option.map a none) (Option.map a none)>>=fun r=>pure (Next.value r):Sem Next)).run P w=_
 rw [Sem.run_bind,e];rfl
theorem wl_strlh {x y z:Operand}{t:TypeId}{bs:List Nat}{i j:Nat}(hw:guardB ops l gd=some true) (hx:evo l x=some (.string (strB bs))) (hy:evo l y=some (.int .i64 (i:Int))) (hz:evo l z=some (.int .i64 (j:Int))) (ht:P.underlying t=some .string) (hij:i≤j) (hj:j≤bs.length) (hn:d<n)
  (h:wl P ops Q n rest ((d,.string (strB ((bs.take j).drop i)))::l) w):wl P ops Q n (⟨some d,.slice t x (some y) (some z) none,ty,pos,af,gd⟩::rest) l w:=
 wl_val hw hn (fun a' ha=>by
  have e:(Instr.sliceAt t (a'.eval x) ((some y).map a'.eval) ((some z).map a'.eval) (Option.map a'.eval none)).run P w= .ok (.string (strB ((bs.take j).drop i))) w:=by
   show (Instr.sliceAt t (a'.eval x) (some (a'.eval y)) (some (a'.eval z)) none).run P w=_
   rw [ha.ev hx,ha.ev hy,ha.ev hz,run_sliceAt_str ht,run_slice_string w t (strB bs) .i64 .i64 (i:Int) (j:Int) ht (by omega) (by omega) (by rw [strB_size];omega),Int.toNat_natCast,Int.toNat_natCast,strB_extract]
  show ((Instr.sliceAt t (a'.eval x) ((some y).map a'.eval) ((some z).map a'.eval) (Option.map a'.eval none)>>=fun r=>pure (Next.value r):Sem Next)).run P w=_
  rw [Sem.run_bind,e];rfl) h
end
theorem a8_add {A B:Int}{a b:Nat}(ha:A=(a:Int)) (hb:B=(b:Int)) (h:a+b≤255):arB .add .u8 A B=some ((a+b:Nat):Int):=by
 subst ha hb;simp only [arB,Option.some.injEq];rw [show (a:Int)+(b:Int)=((a+b:Nat):Int) by omega,IntWalk.u8_in _ ⟨by omega,by omega⟩]
theorem u8_and1 {x:Nat}(hx:x≤255) (P:Program) (t:TypeId) (w:World):(binOp .and t (.int .u8 (x:Int)) (.int .u8 1)).run P w= .ok (.int .u8 ((x%2:Nat):Int)) w:=by
 have h:∀x:Nat,x<256→bits BinOp.and IntKind.u8 ((x:Nat):Int) 1=((x%2:Nat):Int):=by decide+kernel
 have e2:(binOp .and t (.int .u8 (x:Int)) (.int .u8 1)).run P w= .ok (.int .u8 (bits BinOp.and IntKind.u8 (x:Int) 1)) w:=rfl
 rw [e2,h x (by omega)]
theorem bk_rb {w:World}{g n:Nat}{l:List Nat}{b:Nat}(h:Bk w g 5 (l.map B8)) (hl:l.length=n) (hn:n≤1099511627776) (hd:∀x,x∈l→x<b):Rb b w (some ⟨g,0,none⟩) n n l:=
 Own.rb (lb:=0) (Own.mk_ (Nat.zero_le _) h (Nat.le_refl _) (by rw [len_maxLen];omega) (by rw [List.length_map,hl,Nat.mul_one]) (by rw [Nat.mul_one,List.take_of_length_le (by rw [List.length_map,hl];exact Nat.le_refl _)])) hd
theorem run_toStrR {P:Program}{w:World}{A:Option Addr}{n c:Nat}{bs:List Nat}(h:Rv w 1 A n c (bs.map B8)):(Conv.bytesToString (.slice A n c)).run P w= .ok (.string (strB bs)) w:=by
 have hn:n=bs.length:=by have:=h.len;rw [List.length_map] at this;omega
 cases A with
 | none=>
  cases bs with
  | nil=>rw [hn];rfl
  | cons x r=>
   obtain⟨a,ha,_⟩:=h.get 0 (by rw [hn];simp)
   cases ha
 | some a=>
  have hl:=run_loadCells (P:=P) (w:=w) (p:=a) (bs.map B8) 0 #[] (fun j hj=>by
   rw [List.length_map] at hj
   obtain⟨a',ha,hc⟩:=h.get j (by omega)
   cases ha
   rw [Nat.zero_add];exact hc)
  have hr:=run_bytesToString (P:=P) w a n c (bs.map fun x:Nat=>(x:Int)) (by
   rw [List.length_map,←hn] at hl
   unfold loadCells
   rw [hl]
   congr 1
   simp [B8,Function.comp_def])
  rw [hr,push_foldl]
  rw [show ByteArray.empty.data= #[] from rfl,Array.empty_append]
  rfl
theorem wl_toStrR {Q:Exit→Act→World→Prop}{n:Nat}{l:Fr}{w:World}{ops:Array Oper}{rest:List Oper}{d:Nat}{ty:TypeId}{pos:String}{af:Array Edge}{gd:Option (Nat×Bool)}{x:Operand}{k c:Nat}{A:Option Addr}{bs:List Nat}(hw:guardB ops l gd=some true)
  (hx:evo l x=some (.slice A k c)) (ho:Rv w 1 A k c (bs.map B8)) (hn:d<n) (h:wl Tryd.prog ops Q n rest ((d,.string (strB bs))::l) w):wl Tryd.prog ops Q n (⟨some d,.convert 77 9 x,ty,pos,af,gd⟩::rest) l w:=by
 refine wl_val hw hn (fun a' ha=>?_) h
 have e:(convert 77 9 (a'.eval x)).run Tryd.prog w= .ok (.string (strB bs)) w:=by
  rw [ha.ev hx]
  have h1:(underlying 77).run Tryd.prog w= .ok (.slice 5) w:=run_underlying un_u8 w
  have h2:(underlying 9).run Tryd.prog w= .ok .string w:=run_underlying Tryd.underlying9 w
  have h3:(underlying 5).run Tryd.prog w= .ok (.int .u8) w:=run_underlying Tryd.underlying5 w
  unfold convert
  simp only [Sem.run_bind,h1,h2,h3,Result.andThen_ok]
  exact run_toStrR ho
 show ((convert 77 9 (a'.eval x)>>=fun r=>pure (Next.value r):Sem Next)).run Tryd.prog w=_
 rw [Sem.run_bind,e];rfl
theorem aggDec:AggT Tryd.prog 82 5:=⟨fun _=>by kernel_rfl,fun _=>by kernel_rfl⟩
set_option maxHeartbeats 4000000 in
theorem g_arun {w:World}{bs:List Nat}(hbs:∀b,b∈bs→b<256) (hlen:bs.length≤1073741824):
    Calls Tryd.prog 81 #[.string (strB bs)] w (Gv w (Is (.int .i64 ((rn bs:Nat):Int)))):=by
 refine sx_enter Tryd.func81 rfl (n:=23) rfl (bq rfl) (args:= [.string (strB bs)]) (cw_keep [(0,.string (strB bs))] ⟨rfl,trivial⟩ (sr (mv 1 rfl (ne_ (sr (mv 1 rfl (ne_ (cw_seq (cw_block ?_)))))))))
 refine cw_loop (T:=World×Nat)
  (fun⟨wr,i⟩=> [(0,.string (strB bs)),(3,.int .i64 ((i:Nat):Int))])
  (fun⟨wr,i⟩=>wr)
  (fun⟨wr,i⟩=>(Ext w wr)∧(i≤bs.length)∧(∀j,j<i→48≤bs.getD j 0∧bs.getD j 0≤57))
  (fun⟨wr,i⟩=>bs.length-i)
  (⟨w,0⟩:World×Nat) ⟨(Ext.refl w),(Nat.zero_le _),(fun j hj=>absurd hj (Nat.not_lt_zero _))⟩ rfl ⟨rfl,rfl,trivial⟩ ?_
 rintro⟨wr,i⟩ ⟨hw1,hi,hd⟩
 refine cw_re [(0,.string (strB bs)),(3,.int .i64 ((i:Nat):Int))] wr rfl ⟨rfl,rfl,trivial⟩ (cw_seq (cw_seq ?_))
 by_cases hlt:i<bs.length
 · 
  have hc255:bs.getD i 0<256:=hbs _ (getD_mem0 hlt)
  by_cases hc1:bs.getD i 0≥48
  · 
   by_cases hc2:bs.getD i 0≤57
   · 
    refine cw_region (mv 2 rfl (wl_pureE rfl rfl (v:= .int .i64 (((strB bs).size:Nat):Int)) (v':= .int .i64 ((bs.length:Nat):Int)) (by decide) (by kernel_rfl) (by rw [strB_size]) (wl_cmp rfl rfl rfl true (cb_lt_t (a:=i) (b:=bs.length) rfl rfl (by omega)) (by decide) (mv 3 rfl (wl_strix (bs:=bs) (i:=i) rfl rfl rfl Tryd.underlying9 hbs (by omega) (by decide) (wl_cmp rfl rfl rfl true (cb_ge_t (a:=bs.getD i 0) (b:=48) rfl rfl (by omega)) (by decide) (pu (v:= .bool true) rfl (by kernel_rfl) (mv 3 rfl (wl_strix (bs:=bs) (i:=i) rfl rfl rfl Tryd.underlying9 hbs (by omega) (by decide) (wl_cmp rfl rfl rfl true (cb_le_t (a:=bs.getD i 0) (b:=57) rfl rfl (by omega)) (by decide) (pu (v:= .bool true) rfl (by kernel_rfl) (ne_ (cw_true rfl ?_)))))))))))))
    refine cw_skip (eo_then (cw_block (cw_region (mv 1 rfl (wl_ar rfl rfl rfl ((i+1:Nat):Int) (ai_add (a:=i) (b:=1) rfl rfl (by omega)) (by decide) (mv 1 rfl (wl_nil (eo_block_normal (eo_round (⟨wr,i+1⟩:World×Nat) ⟨hw1,(by omega),(fun j hj=>by by_cases e:j=i;(· subst e;exact⟨hc1,hc2⟩);(· exact hd j (by omega)))⟩ (show bs.length-(i+1)<bs.length-i by omega) rfl ⟨rfl,rfl,trivial⟩)))))))))
   · 
    refine cw_region (mv 2 rfl (wl_pureE rfl rfl (v:= .int .i64 (((strB bs).size:Nat):Int)) (v':= .int .i64 ((bs.length:Nat):Int)) (by decide) (by kernel_rfl) (by rw [strB_size]) (wl_cmp rfl rfl rfl true (cb_lt_t (a:=i) (b:=bs.length) rfl rfl (by omega)) (by decide) (mv 3 rfl (wl_strix (bs:=bs) (i:=i) rfl rfl rfl Tryd.underlying9 hbs (by omega) (by decide) (wl_cmp rfl rfl rfl true (cb_ge_t (a:=bs.getD i 0) (b:=48) rfl rfl (by omega)) (by decide) (pu (v:= .bool true) rfl (by kernel_rfl) (mv 3 rfl (wl_strix (bs:=bs) (i:=i) rfl rfl rfl Tryd.underlying9 hbs (by omega) (by decide) (wl_cmp rfl rfl rfl false (cb_le_f (a:=bs.getD i 0) (b:=57) rfl rfl (by omega)) (by decide) (pu (v:= .bool false) rfl (by kernel_rfl) (ne_ (cw_false rfl ?_)))))))))))))
    refine cw_exit (eo_thenX (eo_loopX (eo_block_here (eo_then (sr (mv 2 rfl (ne_ (cw_ret (eo_ret [.int .i64 ((i:Nat):Int)] rfl ⟨rfl,trivial⟩ ?_)))))))))
    exact⟨_,rfl,(show Value.int .i64 _=_ by rw [rn_eq hd (fun h=>hc2 h.2)]),hw1⟩
  · 
   refine cw_region (mv 2 rfl (wl_pureE rfl rfl (v:= .int .i64 (((strB bs).size:Nat):Int)) (v':= .int .i64 ((bs.length:Nat):Int)) (by decide) (by kernel_rfl) (by rw [strB_size]) (wl_cmp rfl rfl rfl true (cb_lt_t (a:=i) (b:=bs.length) rfl rfl (by omega)) (by decide) (mv 3 rfl (wl_strix (bs:=bs) (i:=i) rfl rfl rfl Tryd.underlying9 hbs (by omega) (by decide) (wl_cmp rfl rfl rfl false (cb_ge_f (a:=bs.getD i 0) (b:=48) rfl rfl (by omega)) (by decide) (pu (v:= .bool false) rfl (by kernel_rfl) (mv 5 rfl (pu (v:= .bool false) rfl (by kernel_rfl) (ne_ (cw_false rfl (cw_exit (eo_thenX ?_)))))))))))))
   refine eo_loopX (eo_block_here (eo_then (sr (mv 2 rfl (ne_ (cw_ret (eo_ret [.int .i64 ((i:Nat):Int)] rfl ⟨rfl,trivial⟩ ?_)))))))
   exact⟨_,rfl,(show Value.int .i64 _=_ by rw [rn_eq hd (fun h=>hc1 h.1)]),hw1⟩
 · 
  refine cw_region (mv 2 rfl (wl_pureE rfl rfl (v:= .int .i64 (((strB bs).size:Nat):Int)) (v':= .int .i64 ((bs.length:Nat):Int)) (by decide) (by kernel_rfl) (by rw [strB_size]) (wl_cmp rfl rfl rfl false (cb_lt_f (a:=i) (b:=bs.length) rfl rfl (by omega)) (by decide) (mv 5 rfl (pu (v:= .bool false) rfl (by kernel_rfl) (mv 5 rfl (pu (v:= .bool false) rfl (by kernel_rfl) (ne_ (cw_false rfl (cw_exit (eo_thenX (eo_loopX (eo_block_here ?_)))))))))))))
  refine eo_then (sr (mv 2 rfl (ne_ (cw_ret (eo_ret [.int .i64 ((i:Nat):Int)] rfl ⟨rfl,trivial⟩ ?_)))))
  exact⟨_,rfl,(show Value.int .i64 _=_ by rw [rn_eq hd (by rw [getD_out (by omega)];decide)]),hw1⟩
theorem g_arun_n {w:World}{bs:List Nat}{n:Nat}(hbs:∀b,b∈bs→b<256) (hlen:bs.length≤1073741824) (h:n=rn bs):Calls Tryd.prog 81 #[.string (strB bs)] w (Gv w (Is (.int .i64 ((n:Nat):Int)))):=by subst h;exact g_arun hbs hlen
set_option maxHeartbeats 4000000 in
theorem g_asign {w:World}{bs:List Nat}(hbs:∀b,b∈bs→b<256):
    Calls Tryd.prog 80 #[.string (strB bs)] w (Gv w (T2 (Is (.bool (sgT bs))) (Is (.string (strB (rsT bs)))))):=by
 refine sx_enter Tryd.func80 rfl (n:=22) rfl (bq rfl) (args:= [.string (strB bs)]) (cw_keep [(0,.string (strB bs))] ⟨rfl,trivial⟩ (sr (mv 2 rfl (ne_ (cw_seq (cw_seq ?_))))))
 by_cases h0:bs= []
 · 
  have hl0:bs.length=0:=by rw [h0];rfl
  refine cw_region (mv 1 rfl (wl_streq (a:=bs) (b:= []) rfl rfl rfl hbs (by decide) false (strE_neq_t (h0)) (by decide) (mv 9 rfl (pu (v:= .bool false) rfl (by kernel_rfl) (ne_ (cw_false rfl (cw_skip (eo_then (sr (mv 3 rfl (ne_ (cw_ret (eo_ret [F0,.string (strB bs)] rfl ⟨rfl,rfl,trivial⟩ ?_)))))))))))))
  exact⟨_,rfl,⟨_,_,rfl,(show Value.bool _=_ by rw [h0];rfl),(show Value.string _=_ by rw [h0];rfl)⟩,(Ext.refl w)⟩
 · 
  have hl0:0<bs.length:=List.length_pos_iff.2 h0
  have hc255:bs.getD 0 0<256:=hbs _ (getD_mem0 hl0)
  by_cases h45:bs.getD 0 0=45
  · 
   refine cw_region (mv 1 rfl (wl_streq (a:=bs) (b:= []) rfl rfl rfl hbs (by decide) true (strE_neq_f (h0)) (by decide) (mv 2 rfl (wl_strix (bs:=bs) (i:=0) rfl rfl rfl Tryd.underlying9 hbs (by omega) (by decide) (wl_cmp rfl rfl rfl true (cb_eq_t (a:=bs.getD 0 0) (b:=45) rfl rfl (by omega)) (by decide) (mv 4 rfl (pu (v:= .bool true) rfl (by kernel_rfl) (pu (v:= .bool true) rfl (by kernel_rfl) (ne_ (cw_true rfl (cw_seq ?_)))))))))))
   refine cw_draw mix 5 [3,4] [Is (.string (strB bs)),Is (.int .u8 ((bs.getD 0 0:Nat):Int)),Is (.bool true),Is (.string (strB bs)),Is (.string (strB (bs.drop 1)))] [[],[0],[1],[],[3]] [[],[0],[0,1],[],[3],[0,1,2],[0,1,2,3,4,5]] rfl
    (obs_cons rfl rfl (hob rfl rfl ?_) (obs_cons rfl rfl (hob rfl rfl ?_) (obs_cons rfl rfl (hob rfl rfl ?_) (obs_float rfl rfl (fob rfl ?_) (obs_float rfl rfl (fob rfl ?_) obs_nil))))) ?_
   · 
    exact fun _ _=>deps_nil (mv 1 rfl (pi_done rfl (Ext.refl _) rfl))
   · 
    exact fun _ _=>dk rfl rfl (deps_nil (wl_strix (bs:=bs) (i:=0) rfl rfl rfl Tryd.underlying9 hbs (by omega) (by decide) (pi_done rfl (Ext.refl _) rfl)))
   · 
    exact fun _ _=>dk rfl rfl (deps_nil (wl_cmp rfl rfl rfl true (cb_eq_t (a:=bs.getD 0 0) (b:=45) rfl rfl (by omega)) (by decide) (pi_done rfl (Ext.refl _) rfl)))
   · 
    exact fun _ _=>deps_nil (⟨.string (strB bs),rfl,rfl,fun _=>by kernel_rfl,rfl⟩)
   · 
    exact fun _ _=>dk rfl rfl (deps_nil (⟨.string (strB (bs.drop 1)),rfl,rfl,fun _=>fl_strlo (bs:=bs) (i:=1) rfl rfl Tryd.underlying9 (by omega),rfl⟩))
   · 
    intro v26 e27
    have hw1:=(Ext.refl w).trans e27
    refine dk rfl rfl (dk rfl rfl (dk rfl rfl (dk rfl rfl (dk rfl rfl (deps_nil (mv 2 rfl (wl_nil (eo_np (eo_then (cw_ret (eo_thenR (eo_ret [.bool true,.string (strB (bs.drop 1))] rfl ⟨rfl,rfl,trivial⟩ ?_))))))))))))
    exact⟨_,rfl,⟨_,_,rfl,(show Value.bool true=_ by unfold sgT;rw [decide_eq_true h45]),(show Value.string _=_ by unfold rsT;rw [if_pos (Or.inl h45)])⟩,hw1⟩
  · 
   by_cases h43:bs.getD 0 0=43
   · 
    refine cw_region (mv 1 rfl (wl_streq (a:=bs) (b:= []) rfl rfl rfl hbs (by decide) true (strE_neq_f (h0)) (by decide) (mv 2 rfl (wl_strix (bs:=bs) (i:=0) rfl rfl rfl Tryd.underlying9 hbs (by omega) (by decide) (wl_cmp rfl rfl rfl false (cb_eq_f (a:=bs.getD 0 0) (b:=45) rfl rfl (by omega)) (by decide) (mv 2 rfl (wl_strix (bs:=bs) (i:=0) rfl rfl rfl Tryd.underlying9 hbs (by omega) (by decide) (wl_cmp rfl rfl rfl true (cb_eq_t (a:=bs.getD 0 0) (b:=43) rfl rfl (by omega)) (by decide) (pu (v:= .bool true) rfl (by kernel_rfl) (pu (v:= .bool true) rfl (by kernel_rfl) (ne_ (cw_true rfl (cw_seq ?_)))))))))))))
    refine cw_draw mix 5 [3,4] [Is (.string (strB bs)),Is (.int .u8 ((bs.getD 0 0:Nat):Int)),Is (.bool false),Is (.string (strB bs)),Is (.string (strB (bs.drop 1)))] [[],[0],[1],[],[3]] [[],[0],[0,1],[],[3],[0,1,2],[0,1,2,3,4,5]] rfl
     (obs_cons rfl rfl (hob rfl rfl ?_) (obs_cons rfl rfl (hob rfl rfl ?_) (obs_cons rfl rfl (hob rfl rfl ?_) (obs_float rfl rfl (fob rfl ?_) (obs_float rfl rfl (fob rfl ?_) obs_nil))))) ?_
    · 
     exact fun _ _=>deps_nil (mv 1 rfl (pi_done rfl (Ext.refl _) rfl))
    · 
     exact fun _ _=>dk rfl rfl (deps_nil (wl_strix (bs:=bs) (i:=0) rfl rfl rfl Tryd.underlying9 hbs (by omega) (by decide) (pi_done rfl (Ext.refl _) rfl)))
    · 
     exact fun _ _=>dk rfl rfl (deps_nil (wl_cmp rfl rfl rfl false (cb_eq_f (a:=bs.getD 0 0) (b:=45) rfl rfl (by omega)) (by decide) (pi_done rfl (Ext.refl _) rfl)))
    · 
     exact fun _ _=>deps_nil (⟨.string (strB bs),rfl,rfl,fun _=>by kernel_rfl,rfl⟩)
    · 
     exact fun _ _=>dk rfl rfl (deps_nil (⟨.string (strB (bs.drop 1)),rfl,rfl,fun _=>fl_strlo (bs:=bs) (i:=1) rfl rfl Tryd.underlying9 (by omega),rfl⟩))
    · 
     intro v78 e79
     have hw1:=(Ext.refl w).trans e79
     refine dk rfl rfl (dk rfl rfl (dk rfl rfl (dk rfl rfl (dk rfl rfl (deps_nil (mv 2 rfl (wl_nil (eo_np (eo_then (cw_ret (eo_thenR (eo_ret [F0,.string (strB (bs.drop 1))] rfl ⟨rfl,rfl,trivial⟩ ?_))))))))))))
     exact⟨_,rfl,⟨_,_,rfl,(show Value.bool false=_ by unfold sgT;rw [decide_eq_false (by omega)]),(show Value.string _=_ by unfold rsT;rw [if_pos (Or.inr h43)])⟩,hw1⟩
   · 
    refine cw_region (mv 1 rfl (wl_streq (a:=bs) (b:= []) rfl rfl rfl hbs (by decide) true (strE_neq_f (h0)) (by decide) (mv 2 rfl (wl_strix (bs:=bs) (i:=0) rfl rfl rfl Tryd.underlying9 hbs (by omega) (by decide) (wl_cmp rfl rfl rfl false (cb_eq_f (a:=bs.getD 0 0) (b:=45) rfl rfl (by omega)) (by decide) (mv 2 rfl (wl_strix (bs:=bs) (i:=0) rfl rfl rfl Tryd.underlying9 hbs (by omega) (by decide) (wl_cmp rfl rfl rfl false (cb_eq_f (a:=bs.getD 0 0) (b:=43) rfl rfl (by omega)) (by decide) (pu (v:= .bool false) rfl (by kernel_rfl) (pu (v:= .bool false) rfl (by kernel_rfl) (ne_ (cw_false rfl (cw_skip ?_)))))))))))))
    refine eo_then (sr (mv 3 rfl (ne_ (cw_ret (eo_ret [F0,.string (strB bs)] rfl ⟨rfl,rfl,trivial⟩ ?_)))))
    exact⟨_,rfl,⟨_,_,rfl,(show Value.bool false=_ by unfold sgT;rw [decide_eq_false h45]),(show Value.string _=_ by unfold rsT;rw [if_neg (by omega)])⟩,(Ext.refl w)⟩
theorem g_asign_t {w:World}{bs t:List Nat}(hbs:∀b,b∈bs→b<256) (h:t=rsT bs):Calls Tryd.prog 80 #[.string (strB bs)] w (Gv w (T2 (Is (.bool (sgT bs))) (Is (.string (strB t))))):=by subst h;exact g_asign hbs
theorem cut_join1 (o:Option (Bool×List Nat)) (a:List Nat):(o.map fun x=>(([]:List Nat),(0:Nat),x.1,x.2)).map (fun x=>(a++x.1,x.2.1,x.2.2.1,x.2.2.2))=o.map fun x=>(a,0,x.1,x.2):=by cases o <;> simp
theorem cut_join2 (o:Option (Bool×List Nat)) (a b:List Nat) (m:Nat):(o.map fun x=>(b,m,x.1,x.2)).map (fun x=>(a++x.1,x.2.1,x.2.2.1,x.2.2.2))=o.map fun x=>(a++b,m,x.1,x.2):=by cases o <;> simp
def CutR (bs:List Nat) (v:Value) (_:World):Prop:=match cutF bs with
 | none=>∃(ng:Bool) (dg:List Nat) (bh:Nat) (dn:Bool) (pw:List Nat),v= .tuple #[.agg #[.bool ng,.string (strB dg),.int .i64 ((bh:Nat):Int),.bool dn,.string (strB pw)],.bool false]
 | some x=>v= .tuple #[.agg #[.bool (sgT bs),.string (strB x.1),.int .i64 ((x.2.1:Nat):Int),.bool x.2.2.1,.string (strB x.2.2.2)],.bool true]
theorem CutR.none_ {bs:List Nat}(ng:Bool) (dg:List Nat) (bh:Nat) (dn:Bool) (pw:List Nat){w:World}(h:cutF bs=none):CutR bs (.tuple #[.agg #[.bool ng,.string (strB dg),.int .i64 ((bh:Nat):Int),.bool dn,.string (strB pw)],.bool false]) w:=by unfold CutR;rw [h];exact⟨_,_,_,_,_,rfl⟩
theorem CutR.some_ {bs:List Nat}{x:List Nat×Nat×Bool×List Nat}{v:Value}{w:World}(h:cutF bs=some x) (hv:v= .tuple #[.agg #[.bool (sgT bs),.string (strB x.1),.int .i64 ((x.2.1:Nat):Int),.bool x.2.2.1,.string (strB x.2.2.2)],.bool true]):CutR bs v w:=by unfold CutR;rw [h];exact hv
set_option maxHeartbeats 4000000 in
theorem g_acutR {w:World}{bs:List Nat}(hbs:∀b,b∈bs→b<256) (hlen:bs.length≤1073741824):
    Calls Tryd.prog 55 #[.string (strB bs)] w (Gv w (CutR bs)):=by
 refine sx_enter Tryd.func55 rfl (n:=85) rfl (bq rfl) (args:= [.string (strB bs)]) (cw_keep [(0,.string (strB bs))] ⟨rfl,trivial⟩ (sr (al [F0,.string (strB []),I0,F0,.string (strB [])] (Ext.refl w) (fun _=>by kernel_rfl) rfl fun g1 v2 hb4 ge5 e3 hw1=>(mv 1 rfl (ne_ (sr (alq [F0,.string (strB []),I0,F0,.string (strB [])] hw1 hb4.lt (fun _=>by kernel_rfl) rfl fun g6 v7 hb9 ge10 q11 e8 hw2=>(ne_ (cw_seq ?_)))))))))
 obtain⟨s1,hs1⟩:∃s,s=rsT bs:=⟨_,rfl⟩
 obtain⟨n1,hn1⟩:∃n,n=rn s1:=⟨_,rfl⟩
 have h1b:∀b,b∈s1→b<256:=fun b hb=>hbs b (rsT_mem (hs1▸hb))
 have h1l:s1.length≤1073741824:=Nat.le_trans (hs1▸rsT_len bs) hlen
 have hn1l:n1≤s1.length:=hn1▸rn_le s1
 obtain⟨s2,hs2⟩:∃s,s=s1.drop n1:=⟨_,rfl⟩
 have h2b:∀b,b∈s2→b<256:=fun b hb=>h1b b (List.mem_of_mem_drop (hs2▸hb))
 have h2l:s2.length≤1073741824:=by rw [hs2,List.length_drop];omega
 have hF:cutF bs=if n1=0 then none else (cutD s2).map fun x=>(s1.take n1++x.1,x.2.1,x.2.2.1,x.2.2.2):=by unfold cutF;rw [←hs1,←hn1,←hs2]
 refine cw_region (mv 1 rfl (cl (vs:= [.string (strB bs)]) hw2 (g_asign_t hbs hs1) rfl (by kernel_rfl) fun xr14 v12 r14 e13 hw3=>?_))
 obtain⟨_,_,rfl,rfl,rfl⟩:=r14
 refine mv 1 rfl (pu (v:= .bool (sgT bs)) rfl (by kernel_rfl) (pu (v:= .string (strB s1)) rfl (by kernel_rfl) (pf g6 0 rfl (by kernel_rfl) ?_)))
 have hb17:=(hb9.ext e13)
 refine wl_stored1 rfl rfl rfl (fun _=>by kernel_rfl) rfl hb17 (bq rfl) rfl [.bool (sgT bs),.string (strB ([])),I0,F0,.string (strB ([]))] rfl fun v16 hb18 u19 hs20=>?_
 have hw4:=u19.ext hw3 ge10
 refine mv 1 rfl (ne_ (sr (mv 1 rfl (cl (vs:= [.string (strB s1)]) hw4 (g_arun_n h1b (by first | assumption | (rw [List.length_drop];omega)) hn1) rfl (by kernel_rfl) fun xr23 v21 r23 e22 hw5=>?_))))
 obtain rfl:=r23
 refine mv 1 rfl (ne_ (cw_seq (cw_seq ?_)))
 by_cases hn0:n1=0
 · 
  refine cw_region (mv 1 rfl (wl_cmp rfl rfl rfl true (cb_eq_t (a:=n1) (b:=0) rfl rfl (by omega)) (by decide) (ne_ (cw_true rfl (sr (lo aggDec (hb18.ext e22) [.bool (sgT bs),.string (strB ([])),I0,F0,.string (strB ([]))] rfl rfl rfl ?_))))))
  have hb25:=(((hb4.ext (e8.trans e13)).updN u19 (by omega)).ext e22)
  refine so aggDec hb25 [.bool (sgT bs),.string (strB ([])),I0,F0,.string (strB ([]))] hw5 ge5 rfl rfl rfl rfl fun v24 hb26 u27 hw6=>(mv 1 rfl (ne_ (cw_ret (eo_thenR (eo_ret [.agg #[.bool (sgT bs),.string (strB ([])),I0,F0,.string (strB ([]))],F0] rfl ⟨⟨_,rfl,load_agg aggDec hb26 [.bool (sgT bs),.string (strB ([])),I0,F0,.string (strB ([]))] rfl (bq rfl) rfl⟩,rfl,trivial⟩ ?_)))))
  exact⟨_,rfl,CutR.none_ (sgT bs) ([]) 0 false ([]) (by rw [hF,if_pos hn0]),hw6⟩
 · 
  refine cw_region (mv 1 rfl (wl_cmp rfl rfl rfl false (cb_eq_f (a:=n1) (b:=0) rfl rfl (by omega)) (by decide) (ne_ (cw_false rfl (cw_skip (eo_then (cw_seq ?_)))))))
  refine cw_draw mix 7 [3,4,5] [Is (.string (strB s1)),Is (.int .i64 ((n1:Nat):Int)),Is (.string (strB (s1.take n1))),Is (.string (strB s1)),Is (.int .i64 ((n1:Nat):Int)),Is (.string (strB (s1.drop n1))),Is (.pointer (some ⟨g6,1,none⟩))] [[],[],[0,1],[],[],[3,4],[]] [[],[],[0,1],[],[],[3,4],[0,1,2],[0,1,2,6],[0,1,2,3,4,5,6,7]] rfl
   (obs_cons rfl rfl (hob rfl rfl ?_) (obs_cons rfl rfl (hob rfl rfl ?_) (obs_cons rfl rfl (hob rfl rfl ?_) (obs_float rfl rfl (fob rfl ?_) (obs_float rfl rfl (fob rfl ?_) (obs_float rfl rfl (fob rfl ?_) (obs_cons rfl rfl (hob rfl rfl ?_) obs_nil))))))) ?_
  · 
   exact fun _ _=>deps_nil (mv 1 rfl (pi_done rfl (Ext.refl _) rfl))
  · 
   exact fun _ _=>deps_nil (mv 1 rfl (pi_done rfl (Ext.refl _) rfl))
  · 
   exact fun _ _=>dk rfl rfl (dk rfl rfl (deps_nil (wl_strhi (bs:=s1) (i:=n1) rfl rfl rfl Tryd.underlying9 (by omega) (by decide) (pi_done rfl (Ext.refl _) rfl))))
  · 
   exact fun _ _=>deps_nil (⟨.string (strB s1),rfl,rfl,fun _=>by kernel_rfl,rfl⟩)
  · 
   exact fun _ _=>deps_nil (⟨.int .i64 ((n1:Nat):Int),rfl,rfl,fun _=>by kernel_rfl,rfl⟩)
  · 
   exact fun _ _=>dk rfl rfl (dk rfl rfl (deps_nil (⟨.string (strB (s1.drop n1)),rfl,rfl,fun _=>fl_strlo (bs:=s1) (i:=n1) rfl rfl Tryd.underlying9 (by omega),rfl⟩)))
  · 
   exact fun _ _=>deps_nil (pf g6 1 rfl (by kernel_rfl) (pi_done rfl (Ext.refl _) rfl))
  · 
   intro v63 e64
   have hw6:=hw5.trans e64
   refine dk rfl rfl (dk rfl rfl (dk rfl rfl (dk rfl rfl (dk rfl rfl (dk rfl rfl (dk rfl rfl (deps_nil ?_)))))))
   have hb101:=(hb18.ext (e22.trans e64))
   refine wl_stored1 rfl rfl rfl (fun _=>by kernel_rfl) rfl hb101 (bq rfl) rfl [.bool (sgT bs),.string (strB (s1.take n1)),I0,F0,.string (strB ([]))] rfl fun v100 hb102 u103 hs104=>?_
   have hw7:=u103.ext hw6 ge10
   refine mv 1 rfl (wl_nil (eo_np (eo_then (cw_mid (T:=World×List Nat×List Nat×Nat) (fun⟨wr,s3,dg,bh⟩=> [(0,.string (strB s3)),(2,.pointer (some ⟨g1,0,none⟩)),(4,.pointer (some ⟨g6,0,none⟩))]) (fun⟨wr,s3,dg,bh⟩=>wr) (fun⟨wr,s3,dg,bh⟩=>(Ext w wr)∧(Bk wr g1 82 [F0,.string (strB ([])),I0,F0,.string (strB ([]))])∧(Bk wr g6 82 [.bool (sgT bs),.string (strB dg),.int .i64 ((bh:Nat):Int),F0,.string (strB ([]))])∧(∀b,b∈s3→b<256)∧(s3.length≤1073741824)∧(cutF bs=(cutE s3).map fun x=>(dg,bh,x.1,x.2))) ?_ ?_))))
   · 
    refine cw_seq (cw_keep [(0,.string (strB (s1.drop n1))),(2,.pointer (some ⟨g1,0,none⟩)),(3,.bool false),(4,.pointer (some ⟨g6,0,none⟩)),(7,.string (strB bs)),(8,.tuple #[.bool (sgT bs),.string (strB s1)]),(6,.tuple #[.bool (sgT bs),.string (strB s1)]),(9,.bool (sgT bs)),(10,.string (strB s1)),(11,.pointer (some ⟨g6,0,none⟩)),(12,.string (strB s1)),(13,.int .i64 ((n1:Nat):Int)),(5,.int .i64 ((n1:Nat):Int)),(14,.int .i64 ((n1:Nat):Int)),(15,.bool false),(17,.string (strB s1)),(18,.int .i64 ((n1:Nat):Int)),(19,.string (strB (s1.take n1))),(20,.string (strB s1)),(21,.int .i64 ((n1:Nat):Int)),(22,.string (strB (s1.drop n1))),(23,.pointer (some ⟨g6,1,none⟩))] ⟨rfl,rfl,rfl,rfl,rfl,rfl,rfl,rfl,rfl,rfl,rfl,rfl,rfl,rfl,rfl,rfl,rfl,rfl,rfl,rfl,rfl,rfl,trivial⟩ ?_)
    rw [←hs2]
    have hD:cutD s2=if s2.getD 0 0=46 then (if rn (s2.drop 1)=0 then none else (cutE (s2.drop (rn (s2.drop 1)+1))).map fun x=>((s2.take (rn (s2.drop 1)+1)).drop 1,rn (s2.drop 1),x.1,x.2)) else (cutE s2).map fun x=>([],0,x.1,x.2):=rfl
    by_cases h20:s2= []
    · 
     have hl2:s2.length=0:=by rw [h20];rfl
     have hnd:¬s2.getD 0 0=46:=by rw [h20];decide
     refine cw_region (mv 1 rfl (wl_streq (a:=s2) (b:= []) rfl rfl rfl h2b (by decide) false (strE_neq_t (h20)) (by decide) (mv 4 rfl (pu (v:= .bool false) rfl (by kernel_rfl) (ne_ (cw_false rfl (cw_skip (eo_mid (⟨v100,s2,s1.take n1,0⟩:World×List Nat×List Nat×Nat) ⟨hw7,((((hb4.ext (e8.trans e13)).updN u19 (by omega)).ext (e22.trans e64)).updN u103 (by omega)),hb102,h2b,h2l,(by rw [hF,if_neg hn0,hD,if_neg hnd];exact cut_join1 _ _)⟩ rfl ⟨rfl,rfl,rfl,trivial⟩))))))))
    · 
     have hl2:0<s2.length:=List.length_pos_iff.2 h20
     have hc2:s2.getD 0 0<256:=h2b _ (getD_mem0 hl2)
     by_cases hnd:s2.getD 0 0=46
     · 
      obtain⟨m,hm⟩:∃m,m=rn (s2.drop 1):=⟨_,rfl⟩
      rw [←hm] at hD
      have hml:m+1≤s2.length:=by have h:=rn_le (s2.drop 1);rw [←hm,List.length_drop] at h;omega
      refine cw_region (mv 1 rfl (wl_streq (a:=s2) (b:= []) rfl rfl rfl h2b (by decide) true (strE_neq_f (h20)) (by decide) (mv 2 rfl (wl_strix (bs:=s2) (i:=0) rfl rfl rfl Tryd.underlying9 h2b (by omega) (by decide) (wl_cmp rfl rfl rfl true (cb_eq_t (a:=s2.getD 0 0) (b:=46) rfl rfl (by omega)) (by decide) (pu (v:= .bool true) rfl (by kernel_rfl) (ne_ (cw_true rfl (sr (mv 1 rfl (wl_strlo (bs:=s2) (i:=1) rfl rfl rfl Tryd.underlying9 (by omega) (by decide) (cl (vs:= [.string (strB (s2.drop 1))]) hw7 (g_arun_n (fun b hb=>h2b b (List.mem_of_mem_drop hb)) (by first | assumption | (rw [List.length_drop];omega)) hm) rfl (by kernel_rfl) fun xr107 v105 r107 e106 hw8=>?_))))))))))))
      obtain rfl:=r107
      refine mv 1 rfl (ne_ (cw_seq (cw_seq ?_)))
      by_cases hm0:m=0
      · 
       refine cw_region (mv 1 rfl (wl_cmp rfl rfl rfl true (cb_eq_t (a:=m) (b:=0) rfl rfl (by omega)) (by decide) (ne_ (cw_true rfl (sr (lo aggDec (hb102.ext e106) [.bool (sgT bs),.string (strB (s1.take n1)),I0,F0,.string (strB ([]))] rfl rfl rfl ?_))))))
       have hb109:=(((((hb4.ext (e8.trans e13)).updN u19 (by omega)).ext (e22.trans e64)).updN u103 (by omega)).ext e106)
       refine so aggDec hb109 [.bool (sgT bs),.string (strB (s1.take n1)),I0,F0,.string (strB ([]))] hw8 ge5 rfl rfl rfl rfl fun v108 hb110 u111 hw9=>(mv 1 rfl (ne_ (cw_ret (eo_thenR (eo_midR (eo_ret [.agg #[.bool (sgT bs),.string (strB (s1.take n1)),I0,F0,.string (strB ([]))],F0] rfl ⟨⟨_,rfl,load_agg aggDec hb110 [.bool (sgT bs),.string (strB (s1.take n1)),I0,F0,.string (strB ([]))] rfl (bq rfl) rfl⟩,rfl,trivial⟩ ?_))))))
       exact⟨_,rfl,CutR.none_ (sgT bs) (s1.take n1) 0 false ([]) (by rw [hF,if_neg hn0,hD,if_pos hnd,if_pos hm0];rfl),hw9⟩
      · 
       refine cw_region (mv 1 rfl (wl_cmp rfl rfl rfl false (cb_eq_f (a:=m) (b:=0) rfl rfl (by omega)) (by decide) (ne_ (cw_false rfl (cw_skip (eo_then (cw_seq ?_)))))))
       refine cw_draw mix 8 [] [Is (.pointer (some ⟨g6,1,none⟩)),Is (.string (strB (s1.take n1))),Is (.string (strB s2)),Is (.int .i64 ((m:Nat):Int)),Is (.int .i64 ((m+1:Nat):Int)),Is (.string (strB ((s2.take (m+1)).drop 1))),Is (.string (strB ((s1.take n1)++((s2.take (m+1)).drop 1)))),Is (.pointer (some ⟨g6,1,none⟩))] [[],[0],[],[],[3],[2,4],[1,5],[]] [[],[0],[],[],[3],[2,3,4],[0,1,2,3,4,5],[0,1,2,3,4,5,6],[0,1,2,3,4,5,6,7]] rfl
        (obs_cons rfl rfl (hob rfl rfl ?_) (obs_cons rfl rfl (hob rfl rfl ?_) (obs_cons rfl rfl (hob rfl rfl ?_) (obs_cons rfl rfl (hob rfl rfl ?_) (obs_cons rfl rfl (hob rfl rfl ?_) (obs_cons rfl rfl (hob rfl rfl ?_) (obs_cons rfl rfl (hob rfl rfl ?_) (obs_cons rfl rfl (hob rfl rfl ?_) obs_nil)))))))) ?_
       · 
        exact fun _ _=>deps_nil (pf g6 1 rfl (by kernel_rfl) (pi_done rfl (Ext.refl _) rfl))
       · 
        exact fun _ e116=>dk rfl rfl (deps_nil (wl_load rfl rfl (load_cell (fun _=>by kernel_rfl) (hb102.ext (e106.trans e116)) rfl) (by decide) (pi_done rfl (Ext.refl _) rfl)))
       · 
        exact fun _ _=>deps_nil (mv 1 rfl (pi_done rfl (Ext.refl _) rfl))
       · 
        exact fun _ _=>deps_nil (mv 1 rfl (pi_done rfl (Ext.refl _) rfl))
       · 
        exact fun _ _=>dk rfl rfl (deps_nil (wl_ar rfl rfl rfl ((m+1:Nat):Int) (ai_add (a:=m) (b:=1) rfl rfl (by omega)) (by decide) (pi_done rfl (Ext.refl _) rfl)))
       · 
        exact fun _ _=>dk rfl rfl (dk rfl rfl (deps_nil (wl_strlh (bs:=s2) (i:=1) (j:=m+1) rfl rfl rfl rfl Tryd.underlying9 (by omega) (by omega) (by decide) (pi_done rfl (Ext.refl _) rfl))))
       · 
        exact fun _ _=>dk rfl rfl (dk rfl rfl (deps_nil (wl_op rfl rfl rfl (r:= .string (strB ((s1.take n1)++((s2.take (m+1)).drop 1)))) rfl (fun w=>str_add (a:=s1.take n1) (b:=(s2.take (m+1)).drop 1) (by simp only [List.length_take,List.length_drop];omega)) (by decide) (pi_done rfl (Ext.refl _) rfl))))
       · 
        exact fun _ _=>deps_nil (pf g6 1 rfl (by kernel_rfl) (pi_done rfl (Ext.refl _) rfl))
       · 
        intro v159 e160
        have hw9:=hw8.trans e160
        refine dk rfl rfl (dk rfl rfl (dk rfl rfl (dk rfl rfl (dk rfl rfl (dk rfl rfl (dk rfl rfl (dk rfl rfl (deps_nil ?_))))))))
        have hb202:=(hb102.ext (e106.trans e160))
        refine wl_stored1 rfl rfl rfl (fun _=>by kernel_rfl) rfl hb202 (bq rfl) rfl [.bool (sgT bs),.string (strB ((s1.take n1)++((s2.take (m+1)).drop 1))),I0,F0,.string (strB ([]))] rfl fun v201 hb203 u204 hs205=>?_
        have hw10:=u204.ext hw9 ge10
        refine wl_nil (eo_np (eo_then (sr (mv 1 rfl (pf g6 2 rfl (by kernel_rfl) (wl_stored1 rfl rfl rfl (fun _=>by kernel_rfl) rfl hb203 (bq rfl) rfl [.bool (sgT bs),.string (strB ((s1.take n1)++((s2.take (m+1)).drop 1))),.int .i64 ((m:Nat):Int),F0,.string (strB ([]))] rfl fun v206 hb208 u209 hs210=>?_))))))
        have hw11:=u209.ext hw10 ge10
        refine ne_ (cw_region (mv 2 rfl (wl_ar rfl rfl rfl ((m+1:Nat):Int) (ai_add (a:=m) (b:=1) rfl rfl (by omega)) (by decide) (wl_strlo (bs:=s2) (i:=m+1) rfl rfl rfl Tryd.underlying9 (by omega) (by decide) (mv 1 rfl (wl_nil (eo_mid (⟨v206,s2.drop (m+1),s1.take n1++(s2.take (m+1)).drop 1,m⟩:World×List Nat×List Nat×Nat) ⟨hw11,(((((((hb4.ext (e8.trans e13)).updN u19 (by omega)).ext (e22.trans e64)).updN u103 (by omega)).ext (e106.trans e160)).updN u204 (by omega)).updN u209 (by omega)),hb208,(fun b hb=>h2b b (List.mem_of_mem_drop hb)),(by rw [List.length_drop];omega),(by rw [hF,if_neg hn0,hD,if_pos hnd,if_neg hm0];exact cut_join2 _ _ _ _)⟩ rfl ⟨rfl,rfl,rfl,trivial⟩)))))))
     · 
      refine cw_region (mv 1 rfl (wl_streq (a:=s2) (b:= []) rfl rfl rfl h2b (by decide) true (strE_neq_f (h20)) (by decide) (mv 2 rfl (wl_strix (bs:=s2) (i:=0) rfl rfl rfl Tryd.underlying9 h2b (by omega) (by decide) (wl_cmp rfl rfl rfl false (cb_eq_f (a:=s2.getD 0 0) (b:=46) rfl rfl (by omega)) (by decide) (pu (v:= .bool false) rfl (by kernel_rfl) (ne_ (cw_false rfl (cw_skip (eo_mid (⟨v100,s2,s1.take n1,0⟩:World×List Nat×List Nat×Nat) ⟨hw7,((((hb4.ext (e8.trans e13)).updN u19 (by omega)).ext (e22.trans e64)).updN u103 (by omega)),hb102,h2b,h2l,(by rw [hF,if_neg hn0,hD,if_neg hnd];exact cut_join1 _ _)⟩ rfl ⟨rfl,rfl,rfl,trivial⟩))))))))))
   · 
    rintro⟨wr,s3,dg,bh⟩ ⟨hw1,hb2,hb4,h3b,h3l,hC⟩
    refine cw_re [(0,.string (strB s3)),(2,.pointer (some ⟨g1,0,none⟩)),(4,.pointer (some ⟨g6,0,none⟩))] wr rfl ⟨rfl,rfl,rfl,trivial⟩ (cw_seq (cw_seq ?_))
    have hE:cutE s3=if s3.getD 0 0=101∨s3.getD 0 0=69 then (if rn (rsT (s3.drop 1))=0 then none else if (rsT (s3.drop 1)).drop (rn (rsT (s3.drop 1)))= [] then some (sgT (s3.drop 1),(rsT (s3.drop 1)).take (rn (rsT (s3.drop 1)))) else none) else if s3= [] then some (false,[]) else none:=rfl
    by_cases h30:s3= []
    · 
     have hl3:s3.length=0:=by rw [h30];rfl
     have hne:¬(s3.getD 0 0=101∨s3.getD 0 0=69):=by rw [h30];decide
     refine cw_region (mv 1 rfl (wl_streq (a:=s3) (b:= []) rfl rfl rfl h3b (by decide) false (strE_neq_t (h30)) (by decide) (mv 9 rfl (pu (v:= .bool false) rfl (by kernel_rfl) (ne_ (cw_false rfl (cw_skip (eo_then (sr (lo aggDec hb4 [.bool (sgT bs),.string (strB dg),.int .i64 ((bh:Nat):Int),F0,.string (strB ([]))] rfl rfl rfl (mv 1 rfl (wl_streq (a:=s3) (b:= []) rfl rfl rfl h3b (by decide) true (strE_eql_t (h30)) (by decide) (so aggDec hb2 [.bool (sgT bs),.string (strB dg),.int .i64 ((bh:Nat):Int),F0,.string (strB ([]))] hw1 ge5 rfl rfl rfl rfl fun v211 hb213 u214 hw2=>?_)))))))))))))
     refine mv 1 rfl (ne_ (cw_ret (eo_ret [.agg #[.bool (sgT bs),.string (strB dg),.int .i64 ((bh:Nat):Int),F0,.string (strB ([]))],.bool true] rfl ⟨⟨_,rfl,load_agg aggDec hb213 [.bool (sgT bs),.string (strB dg),.int .i64 ((bh:Nat):Int),F0,.string (strB ([]))] rfl (bq rfl) rfl⟩,rfl,trivial⟩ ?_)))
     exact⟨_,rfl,CutR.some_ (by rw [hC,hE,if_neg hne,if_pos h30];rfl) rfl,hw2⟩
    · 
     have hl3:0<s3.length:=List.length_pos_iff.2 h30
     have hc3:s3.getD 0 0<256:=h3b _ (getD_mem0 hl3)
     by_cases h101:s3.getD 0 0=101
     · 
      obtain⟨tt,htt⟩:∃t,t=rsT (s3.drop 1):=⟨_,rfl⟩
      obtain⟨k,hk⟩:∃k,k=rn tt:=⟨_,rfl⟩
      have htb:∀b,b∈tt→b<256:=fun b hb=>h3b b (List.mem_of_mem_drop (rsT_mem (htt▸hb)))
      have htl:tt.length≤1073741824:=by have h:=rsT_len (s3.drop 1);rw [←htt,List.length_drop] at h;omega
      have hkl:k≤tt.length:=hk▸rn_le tt
      rw [←htt,←hk] at hE
      refine cw_region (mv 1 rfl (wl_streq (a:=s3) (b:= []) rfl rfl rfl h3b (by decide) true (strE_neq_f (h30)) (by decide) (mv 2 rfl (wl_strix (bs:=s3) (i:=0) rfl rfl rfl Tryd.underlying9 h3b (by omega) (by decide) (wl_cmp rfl rfl rfl true (cb_eq_t (a:=s3.getD 0 0) (b:=101) rfl rfl (by omega)) (by decide) (mv 4 rfl (pu (v:= .bool true) rfl (by kernel_rfl) (pu (v:= .bool true) rfl (by kernel_rfl) (ne_ (cw_true rfl (sr (mv 1 rfl (wl_strlo (bs:=s3) (i:=1) rfl rfl rfl Tryd.underlying9 (by omega) (by decide) ?_)))))))))))))
      refine cl (vs:= [.string (strB (s3.drop 1))]) hw1 (g_asign_t (fun b hb=>h3b b (List.mem_of_mem_drop hb)) htt) rfl (by kernel_rfl) fun xr218 v216 r218 e217 hw2=>?_
      obtain⟨_,_,rfl,rfl,rfl⟩:=r218
      refine mv 1 rfl (pu (v:= .bool (sgT (s3.drop 1))) rfl (by kernel_rfl) (pu (v:= .string (strB tt)) rfl (by kernel_rfl) (pf g6 3 rfl (by kernel_rfl) ?_)))
      have hb221:=(hb4.ext e217)
      refine wl_stored1 rfl rfl rfl (fun _=>by kernel_rfl) rfl hb221 (bq rfl) rfl [.bool (sgT bs),.string (strB dg),.int .i64 ((bh:Nat):Int),.bool (sgT (s3.drop 1)),.string (strB ([]))] rfl fun v220 hb222 u223 hs224=>?_
      have hw3:=u223.ext hw2 ge10
      refine mv 1 rfl (ne_ (sr (mv 1 rfl (cl (vs:= [.string (strB tt)]) hw3 (g_arun_n htb (by first | assumption | (rw [List.length_drop];omega)) hk) rfl (by kernel_rfl) fun xr227 v225 r227 e226 hw4=>?_))))
      obtain rfl:=r227
      refine mv 1 rfl (ne_ (cw_seq (cw_seq ?_)))
      by_cases hk0:k=0
      · 
       refine cw_region (mv 1 rfl (wl_cmp rfl rfl rfl true (cb_eq_t (a:=k) (b:=0) rfl rfl (by omega)) (by decide) (ne_ (cw_true rfl (sr (lo aggDec (hb222.ext e226) [.bool (sgT bs),.string (strB dg),.int .i64 ((bh:Nat):Int),.bool (sgT (s3.drop 1)),.string (strB ([]))] rfl rfl rfl ?_))))))
       have hb229:=(((hb2.ext e217).updN u223 (by omega)).ext e226)
       refine so aggDec hb229 [.bool (sgT bs),.string (strB dg),.int .i64 ((bh:Nat):Int),.bool (sgT (s3.drop 1)),.string (strB ([]))] hw4 ge5 rfl rfl rfl rfl fun v228 hb230 u231 hw5=>(mv 1 rfl (ne_ (cw_ret (eo_thenR (eo_thenR (eo_ret [.agg #[.bool (sgT bs),.string (strB dg),.int .i64 ((bh:Nat):Int),.bool (sgT (s3.drop 1)),.string (strB ([]))],F0] rfl ⟨⟨_,rfl,load_agg aggDec hb230 [.bool (sgT bs),.string (strB dg),.int .i64 ((bh:Nat):Int),.bool (sgT (s3.drop 1)),.string (strB ([]))] rfl (bq rfl) rfl⟩,rfl,trivial⟩ ?_))))))
       exact⟨_,rfl,CutR.none_ (sgT bs) dg bh (sgT (s3.drop 1)) ([]) (by rw [hC,hE,if_pos (Or.inl h101),if_pos hk0];rfl),hw5⟩
      · 
       refine cw_region (mv 1 rfl (wl_cmp rfl rfl rfl false (cb_eq_f (a:=k) (b:=0) rfl rfl (by omega)) (by decide) (ne_ (cw_false rfl (cw_skip (eo_then ?_))))))
       refine cw_draw mix 7 [3,4,5] [Is (.string (strB tt)),Is (.int .i64 ((k:Nat):Int)),Is (.string (strB (tt.take k))),Is (.string (strB tt)),Is (.int .i64 ((k:Nat):Int)),Is (.string (strB (tt.drop k))),Is (.pointer (some ⟨g6,4,none⟩))] [[],[],[0,1],[],[],[3,4],[]] [[],[],[0,1],[],[],[3,4],[0,1,2],[0,1,2,6],[0,1,2,3,4,5,6,7]] rfl
        (obs_cons rfl rfl (hob rfl rfl ?_) (obs_cons rfl rfl (hob rfl rfl ?_) (obs_cons rfl rfl (hob rfl rfl ?_) (obs_float rfl rfl (fob rfl ?_) (obs_float rfl rfl (fob rfl ?_) (obs_float rfl rfl (fob rfl ?_) (obs_cons rfl rfl (hob rfl rfl ?_) obs_nil))))))) ?_
       · 
        exact fun _ _=>deps_nil (mv 1 rfl (pi_done rfl (Ext.refl _) rfl))
       · 
        exact fun _ _=>deps_nil (mv 1 rfl (pi_done rfl (Ext.refl _) rfl))
       · 
        exact fun _ _=>dk rfl rfl (dk rfl rfl (deps_nil (wl_strhi (bs:=tt) (i:=k) rfl rfl rfl Tryd.underlying9 (by omega) (by decide) (pi_done rfl (Ext.refl _) rfl))))
       · 
        exact fun _ _=>deps_nil (⟨.string (strB tt),rfl,rfl,fun _=>by kernel_rfl,rfl⟩)
       · 
        exact fun _ _=>deps_nil (⟨.int .i64 ((k:Nat):Int),rfl,rfl,fun _=>by kernel_rfl,rfl⟩)
       · 
        exact fun _ _=>dk rfl rfl (dk rfl rfl (deps_nil (⟨.string (strB (tt.drop k)),rfl,rfl,fun _=>fl_strlo (bs:=tt) (i:=k) rfl rfl Tryd.underlying9 (by omega),rfl⟩)))
       · 
        exact fun _ _=>deps_nil (pf g6 4 rfl (by kernel_rfl) (pi_done rfl (Ext.refl _) rfl))
       · 
        intro v267 e268
        have hw5:=hw4.trans e268
        refine dk rfl rfl (dk rfl rfl (dk rfl rfl (dk rfl rfl (dk rfl rfl (dk rfl rfl (dk rfl rfl (deps_nil ?_)))))))
        have hb305:=(hb222.ext (e226.trans e268))
        refine wl_stored1 rfl rfl rfl (fun _=>by kernel_rfl) rfl hb305 (bq rfl) rfl [.bool (sgT bs),.string (strB dg),.int .i64 ((bh:Nat):Int),.bool (sgT (s3.drop 1)),.string (strB (tt.take k))] rfl fun v304 hb306 u307 hs308=>?_
        have hw6:=u307.ext hw5 ge10
        refine mv 1 rfl (wl_nil (eo_np (eo_then (cw_seq ?_))))
        by_cases hend:tt.drop k= []
        · 
         refine cw_region (lo aggDec hb306 [.bool (sgT bs),.string (strB dg),.int .i64 ((bh:Nat):Int),.bool (sgT (s3.drop 1)),.string (strB (tt.take k))] rfl rfl rfl (mv 1 rfl (wl_streq (a:=tt.drop k) (b:= []) rfl rfl rfl (fun b hb=>htb b (List.mem_of_mem_drop hb)) (by decide) true (strE_eql_t (hend)) (by decide) ?_)))
         have hb310:=((((hb2.ext e217).updN u223 (by omega)).ext (e226.trans e268)).updN u307 (by omega))
         refine so aggDec hb310 [.bool (sgT bs),.string (strB dg),.int .i64 ((bh:Nat):Int),.bool (sgT (s3.drop 1)),.string (strB (tt.take k))] hw6 ge5 rfl rfl rfl rfl fun v309 hb311 u312 hw7=>(mv 1 rfl (ne_ (cw_ret (eo_ret [.agg #[.bool (sgT bs),.string (strB dg),.int .i64 ((bh:Nat):Int),.bool (sgT (s3.drop 1)),.string (strB (tt.take k))],.bool true] rfl ⟨⟨_,rfl,load_agg aggDec hb311 [.bool (sgT bs),.string (strB dg),.int .i64 ((bh:Nat):Int),.bool (sgT (s3.drop 1)),.string (strB (tt.take k))] rfl (bq rfl) rfl⟩,rfl,trivial⟩ ?_))))
         exact⟨_,rfl,CutR.some_ (by rw [hC,hE,if_pos (Or.inl h101),if_neg hk0,if_pos hend];rfl) rfl,hw7⟩
        · 
         refine cw_region (lo aggDec hb306 [.bool (sgT bs),.string (strB dg),.int .i64 ((bh:Nat):Int),.bool (sgT (s3.drop 1)),.string (strB (tt.take k))] rfl rfl rfl (mv 1 rfl (wl_streq (a:=tt.drop k) (b:= []) rfl rfl rfl (fun b hb=>htb b (List.mem_of_mem_drop hb)) (by decide) false (strE_eql_f (hend)) (by decide) ?_)))
         have hb315:=((((hb2.ext e217).updN u223 (by omega)).ext (e226.trans e268)).updN u307 (by omega))
         refine so aggDec hb315 [.bool (sgT bs),.string (strB dg),.int .i64 ((bh:Nat):Int),.bool (sgT (s3.drop 1)),.string (strB (tt.take k))] hw6 ge5 rfl rfl rfl rfl fun v314 hb316 u317 hw7=>(mv 1 rfl (ne_ (cw_ret (eo_ret [.agg #[.bool (sgT bs),.string (strB dg),.int .i64 ((bh:Nat):Int),.bool (sgT (s3.drop 1)),.string (strB (tt.take k))],F0] rfl ⟨⟨_,rfl,load_agg aggDec hb316 [.bool (sgT bs),.string (strB dg),.int .i64 ((bh:Nat):Int),.bool (sgT (s3.drop 1)),.string (strB (tt.take k))] rfl (bq rfl) rfl⟩,rfl,trivial⟩ ?_))))
         exact⟨_,rfl,CutR.none_ (sgT bs) dg bh (sgT (s3.drop 1)) (tt.take k) (by rw [hC,hE,if_pos (Or.inl h101),if_neg hk0,if_neg hend];rfl),hw7⟩
     · 
      by_cases h69:s3.getD 0 0=69
      · 
       obtain⟨tt,htt⟩:∃t,t=rsT (s3.drop 1):=⟨_,rfl⟩
       obtain⟨k,hk⟩:∃k,k=rn tt:=⟨_,rfl⟩
       have htb:∀b,b∈tt→b<256:=fun b hb=>h3b b (List.mem_of_mem_drop (rsT_mem (htt▸hb)))
       have htl:tt.length≤1073741824:=by have h:=rsT_len (s3.drop 1);rw [←htt,List.length_drop] at h;omega
       have hkl:k≤tt.length:=hk▸rn_le tt
       rw [←htt,←hk] at hE
       refine cw_region (mv 1 rfl (wl_streq (a:=s3) (b:= []) rfl rfl rfl h3b (by decide) true (strE_neq_f (h30)) (by decide) (mv 2 rfl (wl_strix (bs:=s3) (i:=0) rfl rfl rfl Tryd.underlying9 h3b (by omega) (by decide) (wl_cmp rfl rfl rfl false (cb_eq_f (a:=s3.getD 0 0) (b:=101) rfl rfl (by omega)) (by decide) (mv 2 rfl (wl_strix (bs:=s3) (i:=0) rfl rfl rfl Tryd.underlying9 h3b (by omega) (by decide) (wl_cmp rfl rfl rfl true (cb_eq_t (a:=s3.getD 0 0) (b:=69) rfl rfl (by omega)) (by decide) (pu (v:= .bool true) rfl (by kernel_rfl) (pu (v:= .bool true) rfl (by kernel_rfl) (ne_ (cw_true rfl (cw_seq ?_)))))))))))))
       refine cw_region (mv 1 rfl (wl_strlo (bs:=s3) (i:=1) rfl rfl rfl Tryd.underlying9 (by omega) (by decide) (cl (vs:= [.string (strB (s3.drop 1))]) hw1 (g_asign_t (fun b hb=>h3b b (List.mem_of_mem_drop hb)) htt) rfl (by kernel_rfl) fun xr321 v319 r321 e320 hw2=>?_)))
       obtain⟨_,_,rfl,rfl,rfl⟩:=r321
       refine mv 1 rfl (pu (v:= .bool (sgT (s3.drop 1))) rfl (by kernel_rfl) (pu (v:= .string (strB tt)) rfl (by kernel_rfl) (pf g6 3 rfl (by kernel_rfl) ?_)))
       have hb324:=(hb4.ext e320)
       refine wl_stored1 rfl rfl rfl (fun _=>by kernel_rfl) rfl hb324 (bq rfl) rfl [.bool (sgT bs),.string (strB dg),.int .i64 ((bh:Nat):Int),.bool (sgT (s3.drop 1)),.string (strB ([]))] rfl fun v323 hb325 u326 hs327=>?_
       have hw3:=u326.ext hw2 ge10
       refine mv 1 rfl (ne_ (sr (mv 1 rfl (cl (vs:= [.string (strB tt)]) hw3 (g_arun_n htb (by first | assumption | (rw [List.length_drop];omega)) hk) rfl (by kernel_rfl) fun xr330 v328 r330 e329 hw4=>?_))))
       obtain rfl:=r330
       refine mv 1 rfl (ne_ (cw_seq (cw_seq ?_)))
       by_cases hk0:k=0
       · 
        refine cw_region (mv 1 rfl (wl_cmp rfl rfl rfl true (cb_eq_t (a:=k) (b:=0) rfl rfl (by omega)) (by decide) (ne_ (cw_true rfl (sr (lo aggDec (hb325.ext e329) [.bool (sgT bs),.string (strB dg),.int .i64 ((bh:Nat):Int),.bool (sgT (s3.drop 1)),.string (strB ([]))] rfl rfl rfl ?_))))))
        have hb332:=(((hb2.ext e320).updN u326 (by omega)).ext e329)
        refine so aggDec hb332 [.bool (sgT bs),.string (strB dg),.int .i64 ((bh:Nat):Int),.bool (sgT (s3.drop 1)),.string (strB ([]))] hw4 ge5 rfl rfl rfl rfl fun v331 hb333 u334 hw5=>(mv 1 rfl (ne_ (cw_ret (eo_thenR (eo_thenR (eo_ret [.agg #[.bool (sgT bs),.string (strB dg),.int .i64 ((bh:Nat):Int),.bool (sgT (s3.drop 1)),.string (strB ([]))],F0] rfl ⟨⟨_,rfl,load_agg aggDec hb333 [.bool (sgT bs),.string (strB dg),.int .i64 ((bh:Nat):Int),.bool (sgT (s3.drop 1)),.string (strB ([]))] rfl (bq rfl) rfl⟩,rfl,trivial⟩ ?_))))))
        exact⟨_,rfl,CutR.none_ (sgT bs) dg bh (sgT (s3.drop 1)) ([]) (by rw [hC,hE,if_pos (Or.inr h69),if_pos hk0];rfl),hw5⟩
       · 
        refine cw_region (mv 1 rfl (wl_cmp rfl rfl rfl false (cb_eq_f (a:=k) (b:=0) rfl rfl (by omega)) (by decide) (ne_ (cw_false rfl (cw_skip (eo_then ?_))))))
        refine cw_draw mix 7 [3,4,5] [Is (.string (strB tt)),Is (.int .i64 ((k:Nat):Int)),Is (.string (strB (tt.take k))),Is (.string (strB tt)),Is (.int .i64 ((k:Nat):Int)),Is (.string (strB (tt.drop k))),Is (.pointer (some ⟨g6,4,none⟩))] [[],[],[0,1],[],[],[3,4],[]] [[],[],[0,1],[],[],[3,4],[0,1,2],[0,1,2,6],[0,1,2,3,4,5,6,7]] rfl
         (obs_cons rfl rfl (hob rfl rfl ?_) (obs_cons rfl rfl (hob rfl rfl ?_) (obs_cons rfl rfl (hob rfl rfl ?_) (obs_float rfl rfl (fob rfl ?_) (obs_float rfl rfl (fob rfl ?_) (obs_float rfl rfl (fob rfl ?_) (obs_cons rfl rfl (hob rfl rfl ?_) obs_nil))))))) ?_
        · 
         exact fun _ _=>deps_nil (mv 1 rfl (pi_done rfl (Ext.refl _) rfl))
        · 
         exact fun _ _=>deps_nil (mv 1 rfl (pi_done rfl (Ext.refl _) rfl))
        · 
         exact fun _ _=>dk rfl rfl (dk rfl rfl (deps_nil (wl_strhi (bs:=tt) (i:=k) rfl rfl rfl Tryd.underlying9 (by omega) (by decide) (pi_done rfl (Ext.refl _) rfl))))
        · 
         exact fun _ _=>deps_nil (⟨.string (strB tt),rfl,rfl,fun _=>by kernel_rfl,rfl⟩)
        · 
         exact fun _ _=>deps_nil (⟨.int .i64 ((k:Nat):Int),rfl,rfl,fun _=>by kernel_rfl,rfl⟩)
        · 
         exact fun _ _=>dk rfl rfl (dk rfl rfl (deps_nil (⟨.string (strB (tt.drop k)),rfl,rfl,fun _=>fl_strlo (bs:=tt) (i:=k) rfl rfl Tryd.underlying9 (by omega),rfl⟩)))
        · 
         exact fun _ _=>deps_nil (pf g6 4 rfl (by kernel_rfl) (pi_done rfl (Ext.refl _) rfl))
        · 
         intro v370 e371
         have hw5:=hw4.trans e371
         refine dk rfl rfl (dk rfl rfl (dk rfl rfl (dk rfl rfl (dk rfl rfl (dk rfl rfl (dk rfl rfl (deps_nil ?_)))))))
         have hb408:=(hb325.ext (e329.trans e371))
         refine wl_stored1 rfl rfl rfl (fun _=>by kernel_rfl) rfl hb408 (bq rfl) rfl [.bool (sgT bs),.string (strB dg),.int .i64 ((bh:Nat):Int),.bool (sgT (s3.drop 1)),.string (strB (tt.take k))] rfl fun v407 hb409 u410 hs411=>?_
         have hw6:=u410.ext hw5 ge10
         refine mv 1 rfl (wl_nil (eo_np (eo_then (cw_seq ?_))))
         by_cases hend:tt.drop k= []
         · 
          refine cw_region (lo aggDec hb409 [.bool (sgT bs),.string (strB dg),.int .i64 ((bh:Nat):Int),.bool (sgT (s3.drop 1)),.string (strB (tt.take k))] rfl rfl rfl (mv 1 rfl (wl_streq (a:=tt.drop k) (b:= []) rfl rfl rfl (fun b hb=>htb b (List.mem_of_mem_drop hb)) (by decide) true (strE_eql_t (hend)) (by decide) ?_)))
          have hb413:=((((hb2.ext e320).updN u326 (by omega)).ext (e329.trans e371)).updN u410 (by omega))
          refine so aggDec hb413 [.bool (sgT bs),.string (strB dg),.int .i64 ((bh:Nat):Int),.bool (sgT (s3.drop 1)),.string (strB (tt.take k))] hw6 ge5 rfl rfl rfl rfl fun v412 hb414 u415 hw7=>(mv 1 rfl (ne_ (cw_ret (eo_ret [.agg #[.bool (sgT bs),.string (strB dg),.int .i64 ((bh:Nat):Int),.bool (sgT (s3.drop 1)),.string (strB (tt.take k))],.bool true] rfl ⟨⟨_,rfl,load_agg aggDec hb414 [.bool (sgT bs),.string (strB dg),.int .i64 ((bh:Nat):Int),.bool (sgT (s3.drop 1)),.string (strB (tt.take k))] rfl (bq rfl) rfl⟩,rfl,trivial⟩ ?_))))
          exact⟨_,rfl,CutR.some_ (by rw [hC,hE,if_pos (Or.inr h69),if_neg hk0,if_pos hend];rfl) rfl,hw7⟩
         · 
          refine cw_region (lo aggDec hb409 [.bool (sgT bs),.string (strB dg),.int .i64 ((bh:Nat):Int),.bool (sgT (s3.drop 1)),.string (strB (tt.take k))] rfl rfl rfl (mv 1 rfl (wl_streq (a:=tt.drop k) (b:= []) rfl rfl rfl (fun b hb=>htb b (List.mem_of_mem_drop hb)) (by decide) false (strE_eql_f (hend)) (by decide) ?_)))
          have hb418:=((((hb2.ext e320).updN u326 (by omega)).ext (e329.trans e371)).updN u410 (by omega))
          refine so aggDec hb418 [.bool (sgT bs),.string (strB dg),.int .i64 ((bh:Nat):Int),.bool (sgT (s3.drop 1)),.string (strB (tt.take k))] hw6 ge5 rfl rfl rfl rfl fun v417 hb419 u420 hw7=>(mv 1 rfl (ne_ (cw_ret (eo_ret [.agg #[.bool (sgT bs),.string (strB dg),.int .i64 ((bh:Nat):Int),.bool (sgT (s3.drop 1)),.string (strB (tt.take k))],F0] rfl ⟨⟨_,rfl,load_agg aggDec hb419 [.bool (sgT bs),.string (strB dg),.int .i64 ((bh:Nat):Int),.bool (sgT (s3.drop 1)),.string (strB (tt.take k))] rfl (bq rfl) rfl⟩,rfl,trivial⟩ ?_))))
          exact⟨_,rfl,CutR.none_ (sgT bs) dg bh (sgT (s3.drop 1)) (tt.take k) (by rw [hC,hE,if_pos (Or.inr h69),if_neg hk0,if_neg hend];rfl),hw7⟩
      · 
       refine cw_region (mv 1 rfl (wl_streq (a:=s3) (b:= []) rfl rfl rfl h3b (by decide) true (strE_neq_f (h30)) (by decide) (mv 2 rfl (wl_strix (bs:=s3) (i:=0) rfl rfl rfl Tryd.underlying9 h3b (by omega) (by decide) (wl_cmp rfl rfl rfl false (cb_eq_f (a:=s3.getD 0 0) (b:=101) rfl rfl (by omega)) (by decide) (mv 2 rfl (wl_strix (bs:=s3) (i:=0) rfl rfl rfl Tryd.underlying9 h3b (by omega) (by decide) (wl_cmp rfl rfl rfl false (cb_eq_f (a:=s3.getD 0 0) (b:=69) rfl rfl (by omega)) (by decide) (pu (v:= .bool false) rfl (by kernel_rfl) (pu (v:= .bool false) rfl (by kernel_rfl) (ne_ (cw_false rfl (cw_skip ?_)))))))))))))
       refine eo_then (sr (lo aggDec hb4 [.bool (sgT bs),.string (strB dg),.int .i64 ((bh:Nat):Int),F0,.string (strB ([]))] rfl rfl rfl (mv 1 rfl (wl_streq (a:=s3) (b:= []) rfl rfl rfl h3b (by decide) false (strE_eql_f (h30)) (by decide) (so aggDec hb2 [.bool (sgT bs),.string (strB dg),.int .i64 ((bh:Nat):Int),F0,.string (strB ([]))] hw1 ge5 rfl rfl rfl rfl fun v422 hb424 u425 hw2=>(mv 1 rfl (ne_ (cw_ret (eo_ret [.agg #[.bool (sgT bs),.string (strB dg),.int .i64 ((bh:Nat):Int),F0,.string (strB ([]))],F0] rfl ⟨⟨_,rfl,load_agg aggDec hb424 [.bool (sgT bs),.string (strB dg),.int .i64 ((bh:Nat):Int),F0,.string (strB ([]))] rfl (bq rfl) rfl⟩,rfl,trivial⟩ ?_)))))))))
       exact⟨_,rfl,CutR.none_ (sgT bs) dg bh false ([]) (by rw [hC,hE,if_neg (by omega),if_neg h30];rfl),hw2⟩
theorem g_acut {w:World}{bs dg pw:List Nat}{bh:Nat}{dn:Bool}(hbs:∀b,b∈bs→b<256) (hlen:bs.length≤1073741824) (h:cutF bs=some (dg,bh,dn,pw)):
  Calls Tryd.prog 55 #[.string (strB bs)] w (Gv w (Is (.tuple #[.agg #[.bool (sgT bs),.string (strB dg),.int .i64 ((bh:Nat):Int),.bool dn,.string (strB pw)],.bool true]))):=
 (g_acutR hbs hlen).mono fun e w' ⟨v,he,hv,hx⟩=>⟨v,he,by unfold CutR at hv;rw [h] at hv;exact hv,hx⟩
theorem g_acut_bad {w:World}{bs:List Nat}(hbs:∀b,b∈bs→b<256) (hlen:bs.length≤1073741824) (h:cutF bs=none):
  Calls Tryd.prog 55 #[.string (strB bs)] w (fun e w'=>∃(ng:Bool) (dg:List Nat) (bh:Nat) (dn:Bool) (pw:List Nat),True∧Gv w (Is (.tuple #[.agg #[.bool ng,.string (strB dg),.int .i64 ((bh:Nat):Int),.bool dn,.string (strB pw)],.bool false])) e w'):=
 (g_acutR hbs hlen).mono fun e w' ⟨v,he,hv,hx⟩=>by
  unfold CutR at hv;rw [h] at hv
  obtain⟨a,b,c,d,e',rfl⟩:=hv
  exact⟨a,b,c,d,e',trivial,_,he,rfl,hx⟩
def dL (m:Nat):Nat:=(txtN 10 m).length
theorem dL_ex {m:Nat}(h:0<m):∃k,dL m=k+1∧10^k≤m∧m<10^(k+1)∧txtN 10 m=dgs (k+1) m:=by
 obtain⟨k,h1,h2⟩:=digits_ex m h
 have e:=txtN_dgs h h1 h2
 refine⟨k,?_,h1,h2,e⟩
 unfold dL;rw [e,dgs_len]
def rup (m k:Nat):Prop:=10^k<2*(m%10^k)∨(10^k=2*(m%10^k)∧m/10^k%2=1)
instance (m k:Nat):Decidable (rup m k):=inferInstanceAs (Decidable (_∨_))
def sv0 (m n:Nat):Nat:=if dL m≤n then m*10^(n-dL m) else m/10^(dL m-n)
def sci1 (m n:Nat):Nat:=if n<dL m∧rup m (dL m-n) then sv0 m n+1 else sv0 m n
def sciQ (m n:Nat):Nat:=if sci1 m n=10^n then 10^(n-1) else sci1 m n
def sciX (m n:Nat):Nat:=if sci1 m n=10^n then dL m else dL m-1
def sciD (q n:Nat):List Nat:=(dgs n q).take 1++(if 1<n then [46]++(dgs n q).drop 1 else [])
def sciT (x:Int) (n:Nat):List Nat:=if x=0 then [48] else ((if x<0 then [45] else [])++sciD (sciQ x.natAbs n) n)++([101]++txtN 10 (sciX x.natAbs n))
theorem pow_pos10 (k:Nat):0<10^k:=Nat.pow_pos (by decide)
theorem sv0_lt {m n:Nat}(h:0<m) (hn:1≤n):sv0 m n<10^n∧10^(n-1)≤sv0 m n:=by
 obtain⟨k,e,h1,h2,_⟩:=dL_ex h
 unfold sv0
 rw [e]
 split
 ·have e1:10^n=10^(k+1)*10^(n-(k+1)):=by rw [←Nat.pow_add];congr 1;omega
  have e2:10^(n-1)=10^k*10^(n-(k+1)):=by rw [←Nat.pow_add];congr 1;omega
  rw [e1,e2]
  exact⟨Nat.mul_lt_mul_of_pos_right h2 (pow_pos10 _),Nat.mul_le_mul_right _ h1⟩
 ·have e1:10^(k+1)=10^n*10^(k+1-n):=by rw [←Nat.pow_add];congr 1;omega
  have e2:10^k=10^(n-1)*10^(k+1-n):=by rw [←Nat.pow_add];congr 1;omega
  rw [e1] at h2
  rw [e2] at h1
  exact⟨(Nat.div_lt_iff_lt_mul (pow_pos10 _)).2 h2,(Nat.le_div_iff_mul_le (pow_pos10 _)).2 h1⟩
theorem sci1_le {m n:Nat}(h:0<m) (hn:1≤n):sci1 m n≤10^n∧10^(n-1)≤sci1 m n:=by
 have:=sv0_lt h hn
 unfold sci1;split <;> omega
theorem sciQ_lt {m n:Nat}(h:0<m) (hn:1≤n):sciQ m n<10^n∧10^(n-1)≤sciQ m n:=by
 have:=sci1_le h hn
 have h1:10^(n-1)<10^n:=Nat.pow_lt_pow_right (by decide) (by omega)
 unfold sciQ;split <;> omega
theorem sv0_get {m n k i:Nat}(he:dL m=k+1) (ht:txtN 10 m=dgs (k+1) m) (hi:i<n):(dgs n (sv0 m n)).getD i 0=if i<k+1 then (txtN 10 m).getD i 0 else 48:=by
 rw [dgs_get hi]
 unfold sv0
 rw [he]
 split
 ·split
  ·rename_i h1 h2
   rw [ht,dgs_get h2]
   have e:n-1-i=(n-(k+1))+(k+1-1-i):=by omega
   rw [e,Nat.pow_add,←Nat.div_div_eq_div_mul,Nat.mul_div_cancel _ (pow_pos10 _)]
  ·rename_i h1 h2
   have e:n-(k+1)=(n-1-i)+(i-k):=by omega
   rw [e,Nat.pow_add,←Nat.mul_assoc,Nat.mul_right_comm,Nat.mul_div_cancel _ (pow_pos10 _)]
   obtain⟨d,hd⟩:∃d,i-k=d+1:=⟨i-k-1,by omega⟩
   rw [hd,Nat.pow_succ,←Nat.mul_assoc,Nat.mul_mod_left]
 ·rename_i h1
  rw [if_pos (by omega),ht,dgs_get (by omega),Nat.div_div_eq_div_mul,←Nat.pow_add]
  congr 4
  omega
theorem dgs_drop:∀{a k v:Nat},(dgs (a+k) v).drop a=dgs k v
 | a,0,v=>by
  rw [Nat.add_zero]
  show (dgs a v).drop a= []
  exact List.drop_of_length_le (by rw [dgs_len];exact Nat.le_refl _)
 | a,k+1,v=>by
  show (dgs (a+k) (v/10)++ [48+v%10]).drop a=dgs k (v/10)++ [48+v%10]
  rw [List.drop_append_of_le_length (by rw [dgs_len];omega),dgs_drop]
theorem dgs_zeros:∀{k v:Nat},(∀c,c∈dgs k v→c=48)→v%10^k=0
 | 0,v,_=>by rw [Nat.pow_zero,Nat.mod_one]
 | k+1,v,h=>by
  rw [dgs] at h
  have h1:=dgs_zeros (k:=k) (v:=v/10) fun c hc=>h c (List.mem_append_left _ hc)
  have h2:=h (48+v%10) (List.mem_append_right _ (List.mem_singleton.2 rfl))
  have h3:v%10=0:=by omega
  have e:=Nat.mod_mul (x:=v) (a:=10) (b:=10^k)
  rw [Nat.pow_succ,Nat.mul_comm,e,h1,h3]
theorem dgs_zero_mem:∀{k v c:Nat},v%10^k=0→c∈dgs k v→c=48
 | 0,_,_,_,h=>absurd h (by simp [dgs])
 | k+1,v,c,h0,h=>by
  have e:=Nat.mod_mul (x:=v) (a:=10) (b:=10^k)
  rw [Nat.pow_succ,Nat.mul_comm,e] at h0
  rw [dgs] at h
  rcases List.mem_append.1 h with h | h
  ·refine dgs_zero_mem (v:=v/10) ?_ h
   have:=Nat.mul_eq_zero.1 (show 10*(v/10%10^k)=0 by omega)
   omega
  ·rw [List.mem_singleton] at h
   omega
theorem rup_dig {m j:Nat}:m%10^(j+1)=m/10^j%10*10^j+m%10^j:=by
 rw [Nat.pow_succ,Nat.mod_mul]
 have:=Nat.mul_comm (10^j) (m/10^j%10)
 omega
theorem rup_gt {m j:Nat}(h:5<m/10^j%10):rup m (j+1):=by
 have:=rup_dig (m:=m) (j:=j)
 have h1:6*10^j≤m/10^j%10*10^j:=Nat.mul_le_mul_right _ h
 have h2:=pow_pos10 j
 refine Or.inl ?_
 rw [Nat.pow_succ] at this⊢
 omega
theorem rup_lt {m j:Nat}(h:m/10^j%10<5):¬rup m (j+1):=by
 have:=rup_dig (m:=m) (j:=j)
 have h1:m/10^j%10*10^j≤4*10^j:=Nat.mul_le_mul_right _ (by omega)
 have h2:=Nat.mod_lt m (pow_pos10 j)
 unfold rup
 rw [Nat.pow_succ] at this⊢
 omega
theorem rup_five {m j:Nat}(h:m/10^j%10=5):rup m (j+1)↔(m/10^(j+1)%2=1∨m%10^j≠0):=by
 have:=rup_dig (m:=m) (j:=j)
 rw [h] at this
 have h2:=Nat.mod_lt m (pow_pos10 j)
 unfold rup
 rw [this]
 rw [show 10^(j+1)=10*10^j by rw [Nat.pow_succ];omega]
 omega
theorem sgn_dec (x:Int) (l:List Nat):(if x<0 then [45] else [])++l=(if decide (x<0)=true then [45] else [])++l:=by
 by_cases h:x<0
 ·rw [if_pos h,decide_eq_true h];rfl
 ·rw [if_neg h,decide_eq_false h];rfl
theorem cutF_sci {sn:Bool}{q n X:Nat}(hn:1≤n):cutF ((if sn then [45] else [])++(sciD q n++([101]++txtN 10 X)))=some (dgs n q,n-1,false,txtN 10 X)∧sgT ((if sn then [45] else [])++(sciD q n++([101]++txtN 10 X)))=sn:=by
 have hT:=txtN_digs (m:=X)
 generalize txtN 10 X=t at hT⊢
 have hE:cutE ([101]++t)=some (false,t):=cutE_exp (ng:=false) hT.1 hT.2 (Or.inl rfl)
 unfold sciD
 have hl:=dgs_len n q
 have hdg:Digs (dgs n q):=fun c hc=>dgs_digit hc
 generalize dgs n q=d at hl hdg
 obtain⟨c,r,rfl⟩:∃c r,d=c::r:=by
  cases d with
  | nil=>simp at hl;omega
  | cons c r=>exact⟨c,r,rfl⟩
 have hd1:Digs [c]:=fun y hy=>hdg y (by rw [List.mem_singleton] at hy;rw [hy];exact List.mem_cons_self)
 by_cases h1:1<n
 ·rw [if_pos h1]
  have hr:Digs r:=fun y hy=>hdg y (List.mem_cons_of_mem _ hy)
  have hrl:r.length=n-1:=by rw [List.length_cons] at hl;omega
  have hr0:r≠ []:=fun e=>by rw [e] at hrl;simp at hrl;omega
  have hD:=cutD_dot (r:= [101]++t) hr hr0 (by show¬(48≤101∧101≤57);decide)
  rw [hE,hrl] at hD
  have h2:=cutF_of (sn:=sn) (r:=46::(r++([101]++t))) hd1 (by simp) (by show¬(48≤46∧46≤57);decide)
  rw [hD] at h2
  simpa using h2
 ·rw [if_neg h1]
  have hn1:n=1:=by omega
  have hr0:r= []:=List.length_eq_zero_iff.1 (by rw [List.length_cons] at hl;omega)
  subst hr0
  have h2:=cutF_of (sn:=sn) (r:= [101]++t) hd1 (by simp) (by show¬(48≤101∧101≤57);decide)
  rw [cutD_e (show ([101]++t).getD 0 0≠46 by show 101≠46;decide),hE] at h2
  rw [hn1]
  simpa using h2
theorem sciT_eq {x:Int}{n:Nat}(hx:x≠0):sciT x n=(if decide (x<0)=true then [45] else [])++(sciD (sciQ x.natAbs n) n++([101]++txtN 10 (sciX x.natAbs n))):=by
 unfold sciT
 rw [if_neg hx,List.append_assoc,sgn_dec]
theorem cut_sci {x:Int}{n:Nat}(hx:x≠0) (hn:1≤n):cutF (sciT x n)=some (dgs n (sciQ x.natAbs n),n-1,false,txtN 10 (sciX x.natAbs n))∧sgT (sciT x n)=decide (x<0):=by
 rw [sciT_eq hx]
 exact cutF_sci hn
theorem load_byte7 {P:Program}{w:World}{T T':TypeId}{g i:Nat}{l:List Nat}(hT:∀w,(isAgg T).run P w= .ok false w) (hb:Bk w g T' (l.map B8)) (hi:i<l.length):(loadVar T ⟨g,i,none⟩).run P w= .ok (.int .u8 ((l.getD i 0:Nat):Int)) w:=by
 refine load_cell hT hb ?_
 simp [List.getD_eq_getElem?_getD,List.getElem?_eq_getElem hi,B8]
theorem repB8 (n:Nat):List.replicate n (Value.int .u8 0)=(List.replicate n 0).map B8:=by rw [List.map_replicate];rfl
theorem nines_dig {n k:Nat}(hk:k<n):(10^n-1)/10^k%10=9:=by
 obtain⟨d,rfl⟩:∃d,n=k+1+d:=⟨n-k-1,by omega⟩
 have hp:0<10^k:=pow_pos10 k
 have hd:0<10^d:=pow_pos10 d
 have e:10^(k+1+d)-1=(10^d-1)*10^(k+1)+9*10^k+(10^k-1):=by
  have h1:10^(k+1+d)=10^d*10^(k+1):=by rw [Nat.pow_add,Nat.mul_comm]
  have h2:10^(k+1)=10*10^k:=by rw [Nat.pow_succ,Nat.mul_comm]
  have h3:(10^d-1)*10^(k+1)+10^(k+1)=10^d*10^(k+1):=by
   have:=Nat.succ_mul (10^d-1) (10^(k+1))
   rw [Nat.succ_eq_add_one,show 10^d-1+1=10^d by omega] at this
   omega
  omega
 rw [e,dig_of (by decide) (by omega),if_pos rfl]
theorem up_ne {n k v:Nat}(hk:k<n) (h:v/10^k%10<9):¬v+1=10^n:=fun e=>by
 have:=nines_dig hk
 rw [←e,Nat.add_sub_cancel] at this
 omega
theorem dgs_pow (n:Nat):dgs n (10^n)=dgs n 0:=by
 have:=dgs_mod (n:=n) (v:=10^n)
 rw [Nat.mod_self] at this
 exact this.symm
def UpR (g n v:Nat) (w:World) (e:Ending) (w':World):Prop:=e= .returned (.bool (decide (v+1=10^n)))∧Upd g w w'∧Bk w' g 5 ((dgs n (v+1)).map B8)
theorem b8_lt {n v:Nat}:∀x,x∈dgs n v→x<256:=fun x hx=>by have:=dgs_digit hx;omega
theorem updig {v k u:Nat}(h9:v%10^k=10^k-1) (hu:u=v-(10^k-1)):u/10^k%10=v/10^k%10:=by
 have hp:0<10^k:=pow_pos10 k
 have h1:=dig_parts v k
 have eu:u=v/10^(k+1)*10^(k+1)+v/10^k%10*10^k+0:=by omega
 have:=dig_of (h:=v/10^(k+1)) (c:=v/10^k%10) (l:=0) (k:=k) (j:=k) (by omega) hp
 rw [←eu,if_pos rfl] at this;exact this
set_option maxHeartbeats 4000000 in
theorem g_up {w:World}{g n v:Nat}(hb0:Bk w g 5 ((dgs n v).map B8)) (hv:v<10^n) (hn:1≤n) (hnb:n≤1099511627776):
    Calls Tryd.prog 51 #[.slice (some ⟨g,0,none⟩) n n] w (UpR g n v w):=by
 refine sx_enter Tryd.func51 rfl (n:=25) rfl (bq rfl) (args:= [.slice (some ⟨g,0,none⟩) n n]) (cw_keep [(0,.slice (some ⟨g,0,none⟩) n n)] ⟨rfl,trivial⟩ (sr (mv 1 rfl (ne_ (cw_seq (sr (mv 1 rfl (pu (v:= .int .i64 ((n:Nat):Int)) rfl (by kernel_rfl) (wl_ar rfl rfl rfl (((n:Nat):Int)-1) (ar_i64s rfl (by omega) (by omega)) (by decide) (mv 1 rfl (ne_ (cw_block ?_))))))))))))
 refine cw_loop (T:=World×Nat×Int)
  (fun⟨wr,k,ii⟩=> [(0,.slice (some ⟨g,0,none⟩) n n),(3,.int .i64 ii)])
  (fun⟨wr,k,ii⟩=>wr)
  (fun⟨wr,k,ii⟩=>(Upd g w wr)∧(k≤n)∧(ii=(n:Int)-1-k)∧(v%10^k=10^k-1)∧(Bk wr g 5 ((dgs n (v-(10^k-1))).map B8)))
  (fun⟨wr,k,ii⟩=>n-k)
  (⟨w,0,_⟩:World×Nat×Int) ⟨Upd.refl g w,(Nat.zero_le _),(by omega),(by rw [Nat.pow_zero,Nat.mod_one]),(show Bk w g 5 ((dgs n (v-(10^0-1))).map B8) from hb0)⟩ rfl ⟨rfl,rfl,trivial⟩ ?_
 rintro⟨wr,k,ii⟩ ⟨hu,hk,hii,h9,hb⟩
 refine cw_re [(0,.slice (some ⟨g,0,none⟩) n n),(3,.int .i64 ii)] wr rfl ⟨rfl,rfl,trivial⟩ (cw_seq (cw_seq ?_))
 by_cases hkn:k<n
 · 
  refine cw_keep [(0,.slice (some ⟨g,0,none⟩) n n),(3,.int .i64 ii)] ⟨rfl,rfl,trivial⟩ ?_
  rw [show ii=((n-1-k:Nat):Int) by omega]
  have hg:(dgs n (v-(10^k-1))).getD (n-1-k) 0=48+v/10^k%10:=by rw [dgs_get (by omega),show n-1-(n-1-k)=k by omega];congr 1;exact (updig h9 rfl)
  refine cw_region (mv 1 rfl (wl_cmp rfl rfl rfl true (cb_ge_t (a:=n-1-k) (b:=0) rfl rfl (by omega)) (by decide) (ne_ (cw_true rfl (cw_skip (eo_then (cw_seq (cw_block (cw_seq (cw_seq ?_))))))))))
  by_cases hlt:(dgs n (v-(10^k-1))).getD (n-1-k) 0<57
  · 
   have hc9:v/10^k%10<9:=by omega
   refine cw_region (mv 2 rfl (wl_idx rfl rfl rfl un_u8 sz_u8 (n-1-k) rfl (by omega) ⟨g,n-1-k,none⟩ (arr_at _ _) (by decide) (wl_load rfl rfl (load_byte7 ag_u8 hb (by rw [(dgs_len _ _)];omega)) (by decide) (wl_cmp rfl rfl rfl true (cb_lt_t (a:=(dgs n (v-(10^k-1))).getD (n-1-k) 0) (b:=57) rfl rfl (by omega)) (by decide) (ne_ (cw_true rfl (sr (mv 2 rfl (wl_idx rfl rfl rfl un_u8 sz_u8 (n-1-k) rfl (by omega) ⟨g,n-1-k,none⟩ (arr_at _ _) (by decide) (wl_load rfl rfl (load_byte7 ag_u8 hb (by rw [(dgs_len _ _)];omega)) (by decide) (wl_ar rfl rfl rfl ((((dgs n (v-(10^k-1))).getD (n-1-k) 0)+1:Nat):Int) (a8_add (a:=(dgs n (v-(10^k-1))).getD (n-1-k) 0) (b:=1) rfl rfl (by omega)) (by decide) (wl_idx rfl rfl rfl un_u8 sz_u8 (n-1-k) rfl (by omega) ⟨g,n-1-k,none⟩ (arr_at _ _) (by decide) ?_))))))))))))
   have hb2:=hb
   refine wl_stored1 rfl rfl rfl sz_u8 rfl hb2 (len_map (by rw [(dgs_len _ _)];omega)) rfl (((dgs n (v-(10^k-1))).set (n-1-k) (((dgs n (v-(10^k-1))).getD (n-1-k) 0)+1)).map B8) (map_B8_set _ _ _) fun v1 hb3 u4 hs5=>(ne_ (sr (mv 1 rfl (ne_ (cw_ret (eo_thenR (eo_block_ret (eo_thenR (eo_loopR (eo_block_ret (eo_thenR (eo_ret [F0] rfl ⟨rfl,trivial⟩ (⟨by rw [decide_eq_false (up_ne hkn hc9)];rfl,hu.trans u4,?_⟩)))))))))))))
   have h:=hb3
   rw [hg,show 48+v/10^k%10+1=48+(v/10^k%10+1) by omega,dgs_set hkn (by omega),(up_low h9 hc9 rfl).1] at h
   exact h
  · 
   have h9c:v/10^k%10=9:=by omega
   have hset:(dgs n (v-(10^k-1))).set (n-1-k) 48=dgs n (v-(10^(k+1)-1)):=by rw [show 48=48+0 from rfl,dgs_set hkn (by decide),(up_zero h9 h9c rfl).1]
   refine cw_region (mv 2 rfl (wl_idx rfl rfl rfl un_u8 sz_u8 (n-1-k) rfl (by omega) ⟨g,n-1-k,none⟩ (arr_at _ _) (by decide) (wl_load rfl rfl (load_byte7 ag_u8 hb (by rw [(dgs_len _ _)];omega)) (by decide) (wl_cmp rfl rfl rfl false (cb_lt_f (a:=(dgs n (v-(10^k-1))).getD (n-1-k) 0) (b:=57) rfl rfl (by omega)) (by decide) (ne_ (cw_false rfl (cw_skip (eo_then (cw_region (mv 2 rfl (wl_idx rfl rfl rfl un_u8 sz_u8 (n-1-k) rfl (by omega) ⟨g,n-1-k,none⟩ (arr_at _ _) (by decide) ?_)))))))))))
   have hb7:=hb
   refine wl_stored1 rfl rfl rfl sz_u8 rfl hb7 (len_map (by rw [(dgs_len _ _)];omega)) rfl (((dgs n (v-(10^k-1))).set (n-1-k) 48).map B8) (map_B8_set _ _ _) fun v6 hb8 u9 hs10=>(wl_nil (eo_block_normal (eo_then (cw_region (mv 1 rfl (wl_ar rfl rfl rfl (((n-1-k:Nat):Int)-1) (ar_i64s rfl (by omega) (by omega)) (by decide) (mv 1 rfl (wl_nil (eo_round (⟨v6,k+1,_⟩:World×Nat×Int) ⟨(hu.trans u9),(by omega),(by omega),(up_step9 h9 h9c),(by have h:=hb8;rw [hset] at h;exact h)⟩ (show n-(k+1)<n-k by omega) rfl ⟨rfl,rfl,trivial⟩)))))))))
 · 
  refine cw_region (mv 1 rfl (wl_cmp rfl rfl rfl false (ge_f (by omega)) (by decide) (ne_ (cw_false rfl (cw_exit (eo_thenX (eo_loopX (eo_block_here (eo_then (sr (mv 1 rfl (ne_ (cw_ret ?_)))))))))))))
  refine eo_ret [.bool true] rfl ⟨rfl,trivial⟩ ?_
  have hke:k=n:=by omega
  subst hke
  rw [Nat.mod_eq_of_lt hv] at h9
  have hp:=pow_pos10 k
  refine⟨by rw [decide_eq_true (by omega)];rfl,hu,?_⟩
  rw [show v-(10^k-1)=0 by omega] at hb
  rw [show v+1=10^k by omega,dgs_pow]
  exact hb
theorem len_w64a {x:Nat}(h:x≤18446744073709551615):(wd x).length≤1:=len_wd_le (by rw [WB_def,Nat.pow_one];omega)
theorem sci_none {m n:Nat}(h:¬(n<dL m∧rup m (dL m-n))) (h0:0<m) (hn:1≤n):sciQ m n=sv0 m n∧sciX m n=dL m-1:=by
 have h1:=sv0_lt h0 hn
 have e:sci1 m n=sv0 m n:=by unfold sci1;rw [if_neg h]
 unfold sciQ sciX
 rw [e,if_neg (by omega),if_neg (by omega)]
 exact⟨rfl,rfl⟩
theorem sci_up {m n:Nat}(h:n<dL m∧rup m (dL m-n)) (h2:¬sv0 m n+1=10^n):sciQ m n=sv0 m n+1∧sciX m n=dL m-1:=by
 have e:sci1 m n=sv0 m n+1:=by unfold sci1;rw [if_pos h]
 unfold sciQ sciX
 rw [e,if_neg h2,if_neg h2]
 exact⟨rfl,rfl⟩
theorem sci_over {m n:Nat}(h:n<dL m∧rup m (dL m-n)) (h2:sv0 m n+1=10^n):sciQ m n=10^(n-1)∧sciX m n=dL m:=by
 have e:sci1 m n=sv0 m n+1:=by unfold sci1;rw [if_pos h]
 unfold sciQ sciX
 rw [e,if_pos h2,if_pos h2]
 exact⟨rfl,rfl⟩
theorem dgs_one {n:Nat}(hn:1≤n):(dgs n (10^n)).set 0 49=dgs n (10^(n-1)):=by
 rw [dgs_pow,show (0:Nat)=n-1-(n-1) by omega,show 49=48+1 from rfl,dgs_set (by omega) (by decide)]
 congr 1
 simp
theorem txtZ_nat (m:Nat):txtZ ((m:Nat):Int)=txtN 10 m:=by
 unfold txtZ;rw [if_neg (by omega),Int.natAbs_natCast]
theorem txtN_ne0 {m:Nat}(h:0<m):txtN 10 m≠ [48]:=fun e=>by
 have h1:=vald_digs10 (m:=m)
 rw [e] at h1
 have:vald 10 ([48].map dv)=0:=rfl
 omega
theorem fill_step {l D:List Nat}{i c:Nat}(h:∀j,j<i→l.getD j 0=D.getD j 0) (hi:i<l.length) (hc:c=D.getD i 0):∀j,j<i+1→(l.set i c).getD j 0=D.getD j 0:=fun j hj=>by
 by_cases e:i=j
 ·subst e;rw [List.getD_eq_getElem?_getD,List.getElem?_set_self hi,hc];rfl
 ·rw [List.getD_eq_getElem?_getD,List.getElem?_set_ne e,←List.getD_eq_getElem?_getD];exact h j (by omega)
theorem rest_iff {s:List Nat}{m n k:Nat}(hs:s=dgs (k+1) m) (hn:n<k+1):(∃i,i<(s.drop (n+1)).length∧(s.drop (n+1)).getD i 0≠48)↔m%10^(k-n)≠0:=by
 have e:s.drop (n+1)=dgs (k-n) m:=by
  rw [hs,show k+1=(n+1)+(k-n) by omega];exact dgs_drop
 rw [e]
 constructor
 ·rintro⟨i,hi,hc⟩ h0
  exact hc (dgs_zero_mem h0 (getD_mem0 hi))
 ·intro h
  refine Classical.byContradiction fun hno=>h (dgs_zeros fun c hc=>?_)
  obtain⟨i,hi,rfl⟩:=List.mem_iff_getElem.1 hc
  refine Classical.byContradiction fun h48=>hno ⟨i,hi,?_⟩
  rw [List.getD_eq_getElem?_getD,List.getElem?_eq_getElem hi];exact h48
theorem more_step {mo od:Bool}{l:List Nat}{p:Nat}(h:mo=true↔od=true∨∃i,i<p∧l.getD i 0≠48) (hc:l.getD p 0=48):mo=true↔od=true∨∃i,i<p+1∧l.getD i 0≠48:=by
 rw [h]
 refine or_congr Iff.rfl ⟨fun⟨i,hi,h⟩=>⟨i,by omega,h⟩,fun⟨i,hi,h3⟩=>?_⟩
 by_cases hip:i=p
 ·subst hip;exact absurd hc h3
 ·exact⟨i,by omega,h3⟩
theorem more_yes {od:Bool}{l:List Nat}{p:Nat}(h:(od=true∨∃i,i<p∧l.getD i 0≠48)∨l.getD p 0≠48):true=true↔od=true∨∃i,i<p+1∧l.getD i 0≠48:=by
 refine⟨fun _=>?_,fun _=>rfl⟩
 rcases h with (h | ⟨i,hi,h⟩) | h
 ·exact Or.inl h
 ·exact Or.inr ⟨i,by omega,h⟩
 ·exact Or.inr ⟨p,by omega,h⟩
theorem g_dec_s {w:World}{A:Option Addr}{an ac m M:Nat}{s:List Nat}(hM:M=m) (hs:s=txtN 10 M) (hS:Signs w) (hx:Wi w A an ac m) (hal:an≤4194304):Calls Tryd.prog 50 #[.slice A an ac] w (Gv w (Is (.string (strB s)))):=by subst hM;subst hs;exact rx_DecF hS hx hal
theorem g_ztext_n {w:World}{s:Bool}{A:Option Addr}{n c X:Nat}(hx:Zi w s A n c ((X:Nat):Int)) (la:n≤4194304) (hS:Signs w):Calls Tryd.prog 21 #[.agg #[.bool s,.slice A n c]] w (Gv w (Is (.string (strB (txtN 10 X))))):=by
 have h:=rx_zTextF hx la hS
 rw [txtZ_nat] at h
 exact h
set_option maxHeartbeats 8000000 in
set_option maxRecDepth 20000 in
theorem g_sci {w:World}{n:Nat}{sa:Bool}{Aa:Option Addr}{na ca:Nat}{x:Int}(hx:Zi w sa Aa na ca x) (la:na≤1048576) (hS:Signs w) (hx00:x≠0) (hn1:1≤n) (hn40:n≤40):
    Calls Tryd.prog 19 #[.agg #[.bool sa,.slice Aa na ca],.int .i64 ((n:Nat):Int)] w (Gv w (T2 (Is (.string (strB (sciT x n)))) (Is (.int .i64 0)))):=by
 have Lx:ln x≤1048576:=Nat.le_trans hx.ln la
 refine sx_enter Tryd.func19 rfl (n:=113) rfl (bq rfl) (args:= [.agg #[.bool sa,.slice Aa na ca],.int .i64 ((n:Nat):Int)]) (cw_keep [(0,.agg #[.bool sa,.slice Aa na ca]),(1,.int .i64 ((n:Nat):Int))] ⟨rfl,rfl,trivial⟩ (sr (bx [.bool sa,.slice Aa na ca] (Ext.refl w) rfl rfl rfl fun g1 v2 hb4 ge5 e3 hw1=>(mv 2 rfl (ne_ (cw_seq (sr (mv 1 rfl (wl_cmp rfl rfl rfl false (cb_lt_f (a:=n) (b:=1) rfl rfl (by omega)) (by decide) (mv 2 rfl (wl_cmp rfl rfl rfl false (cb_gt_f (a:=n) (b:=40) rfl rfl (by omega)) (by decide) (pu (v:= .bool false) rfl (by kernel_rfl) (wl_nil ?_)))))))))))))
 refine eo_then (cw_false rfl (cw_skip (eo_then (cw_seq ?_))))
 obtain⟨M,hM⟩:∃M,M=Int.natAbs x:=⟨_,rfl⟩
 have hM0:0<M:=by omega
 obtain⟨s,hs⟩:∃s,s=txtN 10 M:=⟨_,rfl⟩
 obtain⟨kL,hkL,hk1,hk2,htx⟩:=dL_ex hM0
 have hsl:s.length=kL+1:=by rw [hs];exact hkL
 have hsd:s=dgs (kL+1) M:=by rw [hs,htx]
 have hs256:∀b,b∈s→b<256:=by rw [hsd];exact b8_lt
 have hsn:s≠ [48]:=hs▸txtN_ne0 hM0
 have hsb:s.length≤67108865:=by rw [hs];exact txtN_len (b:=10) (n:=1048576) (by decide) (by rw [hM];exact Lx)
 refine cw_region (pf g1 1 rfl (by kernel_rfl) (wl_load rfl rfl (load_cell cellWords hb4 rfl) (by decide) (cl (vs:= [.slice Aa na ca]) hw1 (g_dec_s hM hs (hS.ext hw1) (hx.ext hw1).wi (lx_ la rfl)) rfl (by kernel_rfl) fun xr8 v6 r8 e7 hw2=>?_)))
 obtain rfl:=r8
 refine mv 1 rfl (ne_ (cw_seq (sr (mv 1 rfl (wl_streq (a:=s) (b:= [48]) rfl rfl rfl hs256 (by decide) false (strE_eql_f (hsn)) (by decide) (ne_ (cw_false rfl (cw_skip (eo_then (sr (mv 1 rfl (wl_pureE rfl rfl (v:= .int .i64 (((strB s).size:Nat):Int)) (v':= .int .i64 ((s.length:Nat):Int)) (by decide) (by kernel_rfl) (by rw [strB_size]) (wl_ar rfl rfl rfl ((s.length-1:Nat):Int) (ai_sub (a:=s.length) (b:=1) rfl rfl (by omega) (by omega)) (by decide) ?_)))))))))))))
 refine mv 1 rfl (ne_ (sr (mv 1 rfl (wl_make rfl (k:=n) rfl rfl rfl un_u8 info8 rfl (by decide) (by omega) (by decide) fun g9 v10 hg11 hb12 e13=>?_))))
 rw [repB8] at hb12
 have ge14:w.heap.size≤g9:=by rw [←hg11];exact hw2.size
 have q15:g1<g9:=by rw [←hg11];exact (hb4.ext e7).lt
 clear hg11
 have hw3:=hw2.trans e13
 refine mv 1 rfl (ne_ (cw_seq (sr (mv 1 rfl (pu (v:= .int .i64 ((n:Nat):Int)) rfl (by kernel_rfl) (mv 1 rfl (ne_ (cw_block ?_))))))))
 refine cw_loop (T:=World×Nat×List Nat)
  (fun⟨wr,i,l⟩=> [(1,.int .i64 ((n:Nat):Int)),(2,.pointer (some ⟨g1,0,none⟩)),(6,.string (strB s)),(7,.int .i64 ((s.length-1:Nat):Int)),(8,.slice (some ⟨g9,0,none⟩) n n),(32,.int .i64 ((n:Nat):Int)),(33,.int .i64 ((i:Nat):Int))])
  (fun⟨wr,i,l⟩=>wr)
  (fun⟨wr,i,l⟩=>(Ext w wr)∧(i≤n)∧(Bk wr g9 5 (l.map B8))∧(l.length=n)∧(∀j,j<i→l.getD j 0=(dgs n (sv0 M n)).getD j 0)∧(Bk wr g1 24 [.bool sa,.slice Aa na ca]))
  (fun⟨wr,i,l⟩=>n-i)
  (⟨v10,0,_⟩:World×Nat×List Nat) ⟨hw3,(Nat.zero_le _),hb12,(List.length_replicate (n:=n) (a:=0)),(fun j hj=>absurd hj (Nat.not_lt_zero _)),(hb4.ext (e7.trans e13))⟩ rfl ⟨rfl,rfl,rfl,rfl,rfl,rfl,rfl,trivial⟩ ?_
 rintro⟨wr,i,l⟩ ⟨hw1,hi,hb,hl,hI,hbx⟩
 refine cw_re [(1,.int .i64 ((n:Nat):Int)),(2,.pointer (some ⟨g1,0,none⟩)),(6,.string (strB s)),(7,.int .i64 ((s.length-1:Nat):Int)),(8,.slice (some ⟨g9,0,none⟩) n n),(32,.int .i64 ((n:Nat):Int)),(33,.int .i64 ((i:Nat):Int))] wr rfl ⟨rfl,rfl,rfl,rfl,rfl,rfl,rfl,trivial⟩ (cw_seq ?_)
 by_cases hlt:i<n
 · 
  refine cw_region (wl_cmp rfl rfl rfl true (cb_lt_t (a:=i) (b:=n) rfl rfl (by omega)) (by decide) (ne_ (cw_seq (cw_true rfl (cw_skip (eo_then (cw_seq (cw_block (sr (mv 2 rfl (ne_ (sr (mv 1 rfl ?_)))))))))))))
  refine mv 1 rfl (wl_idx rfl rfl rfl un_u8 sz_u8 i rfl (by omega) ⟨g9,i,none⟩ (arr_at _ _) (by decide) ?_)
  have hb17:=hb
  refine wl_stored1 rfl rfl rfl sz_u8 rfl hb17 (len_map (by rw [hl];omega)) rfl ((l.set i 48).map B8) (map_B8_set _ _ _) fun v16 hb18 u19 hs20=>?_
  have hw2:=u19.ext hw1 ge14
  refine ne_ (cw_seq ?_)
  by_cases his:i<s.length
  · 
   refine cw_region (mv 2 rfl (wl_pureE rfl rfl (v:= .int .i64 (((strB s).size:Nat):Int)) (v':= .int .i64 ((s.length:Nat):Int)) (by decide) (by kernel_rfl) (by rw [strB_size]) (wl_cmp rfl rfl rfl true (cb_lt_t (a:=i) (b:=s.length) rfl rfl (by omega)) (by decide) (ne_ (cw_true rfl ?_)))))
   have hc256:s.getD i 0<256:=hs256 _ (getD_mem0 his)
   refine cw_region (mv 4 rfl (wl_strix (bs:=s) (i:=i) rfl rfl rfl Tryd.underlying9 hs256 (by omega) (by decide) (wl_idx rfl rfl rfl un_u8 sz_u8 i rfl (by omega) ⟨g9,i,none⟩ (arr_at _ _) (by decide) (wl_stored1 rfl rfl rfl sz_u8 rfl hb18 (len_map (by rw [(len_set (l:=l) (hl))];omega)) rfl (((l.set i 48).set i (s.getD i 0)).map B8) (map_B8_set _ _ _) fun v21 hb23 u24 hs25=>?_))))
   have hw3:=u24.ext hw2 ge14
   refine wl_nil (eo_block_normal (eo_then (cw_region (wl_ar rfl rfl rfl ((i+1:Nat):Int) (ai_add (a:=i) (b:=1) rfl rfl (by omega)) (by decide) (mv 1 rfl (wl_nil (eo_round (⟨v21,i+1,(l.set i 48).set i (s.getD i 0)⟩:World×Nat×List Nat) ⟨hw3,(by omega),hb23,(len_set (l:=l.set i 48) ((len_set (l:=l) (hl)))),(by rw [List.set_set];exact fill_step hI (by omega) (by rw [sv0_get hkL htx hlt,if_pos (by omega),←hs])),((hbx.updN u19 (by omega)).updN u24 (by omega))⟩ (show n-(i+1)<n-i by omega) rfl ⟨rfl,rfl,rfl,rfl,rfl,rfl,rfl,trivial⟩)))))))
  · 
   refine cw_region (mv 2 rfl (wl_pureE rfl rfl (v:= .int .i64 (((strB s).size:Nat):Int)) (v':= .int .i64 ((s.length:Nat):Int)) (by decide) (by kernel_rfl) (by rw [strB_size]) (wl_cmp rfl rfl rfl false (cb_lt_f (a:=i) (b:=s.length) rfl rfl (by omega)) (by decide) (ne_ (cw_false rfl (cw_skip (eo_block_normal (eo_then (cw_region (wl_ar rfl rfl rfl ((i+1:Nat):Int) (ai_add (a:=i) (b:=1) rfl rfl (by omega)) (by decide) (mv 1 rfl (wl_nil (eo_round (⟨v16,i+1,l.set i 48⟩:World×Nat×List Nat) ⟨hw2,(by omega),hb18,(len_set (l:=l) (hl)),(fill_step hI (by omega) (by rw [sv0_get hkL htx hlt,if_neg (by omega)])),(hbx.updN u19 (by omega))⟩ (show n-(i+1)<n-i by omega) rfl ⟨rfl,rfl,rfl,rfl,rfl,rfl,rfl,trivial⟩)))))))))))))
 · 
  have hin:i=n:=by omega
  have hlD:l=dgs n (sv0 M n):=list_ext0 (by rw [hl,dgs_len]) (fun j hj=>hI j (by omega))
  subst hlD
  refine cw_region (wl_cmp rfl rfl rfl false (cb_lt_f (a:=i) (b:=n) rfl rfl (by omega)) (by decide) (ne_ (cw_seq (cw_false rfl (cw_exit (eo_thenX (eo_loopX (eo_block_here (eo_then (cw_mid (T:=World×Nat×Nat) (fun⟨wr,X,Q⟩=> [(1,.int .i64 ((n:Nat):Int)),(2,.pointer (some ⟨g1,0,none⟩)),(7,.int .i64 ((X:Nat):Int)),(8,.slice (some ⟨g9,0,none⟩) n n)]) (fun⟨wr,X,Q⟩=>wr) (fun⟨wr,X,Q⟩=>(Ext w wr)∧(Bk wr g9 5 ((dgs n Q).map B8))∧(Bk wr g1 24 [.bool sa,.slice Aa na ca])∧(X=sciX M n)∧(Q=sciQ M n)∧(X≤67108865)) ?_ ?_))))))))))
  · 
   refine cw_seq ?_
   by_cases hsn2:s.length>n
   · 
    have hnL:n<dL M:=by rw [hkL];omega
    have hLn:dL M-n=(kL-n)+1:=by rw [hkL];omega
    have hcn:s.getD n 0=48+M/10^(kL-n)%10:=by rw [hsd,dgs_get (by omega),show kL+1-1-n=kL-n by omega]
    have hsv:sv0 M n=M/10^(kL-n+1):=by unfold sv0;rw [if_neg (by omega),hLn]
    refine cw_region (mv 1 rfl (wl_pureE rfl rfl (v:= .int .i64 (((strB s).size:Nat):Int)) (v':= .int .i64 ((s.length:Nat):Int)) (by decide) (by kernel_rfl) (by rw [strB_size]) (mv 1 rfl (wl_cmp rfl rfl rfl true (cb_gt_t (a:=s.length) (b:=n) rfl rfl (by omega)) (by decide) (ne_ (cw_true rfl (cw_seq ?_)))))))
    by_cases hg5:s.getD n 0>53
    · 
     refine cw_region (mv 2 rfl (wl_strix (bs:=s) (i:=n) rfl rfl rfl Tryd.underlying9 hs256 (by omega) (by decide) (wl_cmp rfl rfl rfl true (cb_gt_t (a:=s.getD n 0) (b:=53) rfl rfl (by omega)) (by decide) (mv 1 rfl (ne_ (cw_mid (T:=World×Bool) (fun⟨wr,mo⟩=> [(1,.int .i64 ((n:Nat):Int)),(2,.pointer (some ⟨g1,0,none⟩)),(7,.int .i64 ((s.length-1:Nat):Int)),(8,.slice (some ⟨g9,0,none⟩) n n),(10,.bool mo)]) (fun⟨wr,mo⟩=>wr) (fun⟨wr,mo⟩=>(Ext w wr)∧(Bk wr g9 5 ((dgs n (sv0 M n)).map B8))∧(Bk wr g1 24 [.bool sa,.slice Aa na ca])∧(mo=true↔rup M (dL M-n))) ?_ ?_))))))
     · 
      refine sr (mv 2 rfl (wl_strix (bs:=s) (i:=n) rfl rfl rfl Tryd.underlying9 hs256 (by omega) (by decide) (wl_cmp rfl rfl rfl false (cb_eq_f (a:=s.getD n 0) (b:=53) rfl rfl (by omega)) (by decide) (ne_ (cw_false rfl (cw_skip (eo_mid (⟨wr,true⟩:World×Bool) ⟨hw1,hb,hbx,(by rw [hLn];exact⟨fun _=>(rup_gt (by omega)),fun _=>rfl⟩)⟩ rfl ⟨rfl,rfl,rfl,rfl,rfl,trivial⟩)))))))
     · 
      rintro⟨wr,mo⟩ ⟨hw1,hb,hbx,hmo⟩
      refine cw_re [(1,.int .i64 ((n:Nat):Int)),(2,.pointer (some ⟨g1,0,none⟩)),(7,.int .i64 ((s.length-1:Nat):Int)),(8,.slice (some ⟨g9,0,none⟩) n n),(10,.bool mo)] wr rfl ⟨rfl,rfl,rfl,rfl,rfl,trivial⟩ (cw_seq ?_)
      cases mo
      · 
       have hsq:=sci_none (fun h=>by have:=hmo.2 h.2;cases this) hM0 hn1
       refine cw_region (mv 4 rfl (pu (v:= .bool false) rfl (by kernel_rfl) (ne_ (cw_false rfl (cw_skip (eo_mid (⟨wr,s.length-1,sciQ M n⟩:World×Nat×Nat) ⟨hw1,(by rw [hsq.1];exact hb),hbx,(by rw [hsq.2,hkL,hsl]),rfl,(by omega)⟩ rfl ⟨rfl,rfl,rfl,rfl,trivial⟩))))))
      · 
       have hr:=hmo.1 rfl
       by_cases hov:sv0 M n+1=10^n
       · 
        have hsq:=sci_over ⟨hnL,hr⟩ hov
        refine cw_region (mv 3 rfl (wl_call rfl rfl (vs:= [.slice (some ⟨g9,0,none⟩) n n]) (by kernel_rfl) (by decide) (g_up hb (sv0_lt hM0 hn1).1 hn1 (by omega)) ?_))
        rintro _ v26 ⟨rfl,u27,hb28⟩
        refine ret_intro ?_
        rw [decide_eq_true hov]
        have hw2:=u27.ext hw1 ge14
        refine pu (v:= .bool true) rfl (by kernel_rfl) (ne_ (cw_true rfl (sr (mv 1 rfl (wl_idx rfl rfl rfl un_u8 sz_u8 0 rfl (by omega) ⟨g9,0,none⟩ (arr_at _ _) (by decide) (wl_stored1 rfl rfl rfl sz_u8 rfl hb28 (len_map (by rw [(dgs_len _ _)];omega)) rfl (((dgs n (sv0 M n+1)).set 0 49).map B8) (map_B8_set _ _ _) fun v29 hb31 u32 hs33=>?_))))))
        have hw3:=u32.ext hw2 ge14
        refine ne_ (cw_region (mv 1 rfl (wl_ar rfl rfl rfl (((s.length-1)+1:Nat):Int) (ai_add (a:=s.length-1) (b:=1) rfl rfl (by omega)) (by decide) (mv 1 rfl (wl_nil (eo_mid (⟨v29,(s.length-1)+1,sciQ M n⟩:World×Nat×Nat) ⟨hw3,(by rw [hsq.1,←dgs_one hn1,←hov];exact hb31),((hbx.updN u27 (by omega)).updN u32 (by omega)),(by rw [hsq.2,hkL,hsl];omega),rfl,(by omega)⟩ rfl ⟨rfl,rfl,rfl,rfl,trivial⟩))))))
       · 
        have hsq:=sci_up ⟨hnL,hr⟩ hov
        refine cw_region (mv 3 rfl (wl_call rfl rfl (vs:= [.slice (some ⟨g9,0,none⟩) n n]) (by kernel_rfl) (by decide) (g_up hb (sv0_lt hM0 hn1).1 hn1 (by omega)) ?_))
        rintro _ v34 ⟨rfl,u35,hb36⟩
        refine ret_intro ?_
        rw [decide_eq_false hov]
        have hw2:=u35.ext hw1 ge14
        refine pu (v:= .bool false) rfl (by kernel_rfl) (ne_ (cw_false rfl (cw_skip (eo_mid (⟨v34,s.length-1,sciQ M n⟩:World×Nat×Nat) ⟨hw2,(by rw [hsq.1];exact hb36),(hbx.updN u35 (by omega)),(by rw [hsq.2,hkL,hsl]),rfl,(by omega)⟩ rfl ⟨rfl,rfl,rfl,rfl,trivial⟩))))
    · 
     refine cw_region (mv 2 rfl (wl_strix (bs:=s) (i:=n) rfl rfl rfl Tryd.underlying9 hs256 (by omega) (by decide) (wl_cmp rfl rfl rfl false (cb_gt_f (a:=s.getD n 0) (b:=53) rfl rfl (by omega)) (by decide) (mv 1 rfl (ne_ (cw_mid (T:=World×Bool) (fun⟨wr,mo⟩=> [(1,.int .i64 ((n:Nat):Int)),(2,.pointer (some ⟨g1,0,none⟩)),(7,.int .i64 ((s.length-1:Nat):Int)),(8,.slice (some ⟨g9,0,none⟩) n n),(10,.bool mo)]) (fun⟨wr,mo⟩=>wr) (fun⟨wr,mo⟩=>(Ext w wr)∧(Bk wr g9 5 ((dgs n (sv0 M n)).map B8))∧(Bk wr g1 24 [.bool sa,.slice Aa na ca])∧(mo=true↔rup M (dL M-n))) ?_ ?_))))))
     · 
      refine cw_seq ?_
      by_cases he5:s.getD n 0=53
      · 
       have h5:M/10^(kL-n)%10=5:=by omega
       refine cw_region (mv 2 rfl (wl_strix (bs:=s) (i:=n) rfl rfl rfl Tryd.underlying9 hs256 (by omega) (by decide) (wl_cmp rfl rfl rfl true (cb_eq_t (a:=s.getD n 0) (b:=53) rfl rfl (by omega)) (by decide) (ne_ (cw_true rfl (cw_mid (T:=World×Bool) (fun⟨wr,od⟩=> [(1,.int .i64 ((n:Nat):Int)),(2,.pointer (some ⟨g1,0,none⟩)),(6,.string (strB s)),(7,.int .i64 ((s.length-1:Nat):Int)),(8,.slice (some ⟨g9,0,none⟩) n n),(10,.bool od)]) (fun⟨wr,od⟩=>wr) (fun⟨wr,od⟩=>(Ext w wr)∧(Bk wr g9 5 ((dgs n (sv0 M n)).map B8))∧(Bk wr g1 24 [.bool sa,.slice Aa na ca])∧(od=decide (sv0 M n%2=1))) ?_ ?_))))))
       · 
        have hod:(dgs n (sv0 M n)).getD (n-1) 0%2=sv0 M n%2:=by rw [dgs_get (by omega),Nat.sub_self,Nat.pow_zero,Nat.div_one];omega
        have hod8:(dgs n (sv0 M n)).getD (n-1) 0≤255:=by have:=b8_lt _ (getD_mem0 (l:=dgs n (sv0 M n)) (i:=n-1) (by rw [dgs_len];omega));omega
        by_cases hodd:((dgs n (sv0 M n)).getD (n-1) 0)%2=1
        · 
         refine cw_region (mv 2 rfl (wl_ar rfl rfl rfl ((n-1:Nat):Int) (ai_sub (a:=n) (b:=1) rfl rfl (by omega) (by omega)) (by decide) (wl_idx rfl rfl rfl un_u8 sz_u8 (n-1) rfl (by omega) ⟨g9,n-1,none⟩ (arr_at _ _) (by decide) (wl_load rfl rfl (load_byte7 ag_u8 hb (by rw [(dgs_len _ _)];omega)) (by decide) (wl_op rfl rfl rfl (r:= .int .u8 ((((dgs n (sv0 M n)).getD (n-1) 0)%2:Nat):Int)) rfl (fun w=>u8_and1 (x:=(dgs n (sv0 M n)).getD (n-1) 0) (by omega) _ _ w) (by decide) (wl_cmp rfl rfl rfl true (cb_eq_t (a:=((dgs n (sv0 M n)).getD (n-1) 0)%2) (b:=1) rfl rfl (by omega)) (by decide) (mv 1 rfl (wl_nil (eo_mid (⟨wr,true⟩:World×Bool) ⟨hw1,hb,hbx,(by rw [decide_eq_true (by omega)])⟩ rfl ⟨rfl,rfl,rfl,rfl,rfl,rfl,trivial⟩)))))))))
        · 
         refine cw_region (mv 2 rfl (wl_ar rfl rfl rfl ((n-1:Nat):Int) (ai_sub (a:=n) (b:=1) rfl rfl (by omega) (by omega)) (by decide) (wl_idx rfl rfl rfl un_u8 sz_u8 (n-1) rfl (by omega) ⟨g9,n-1,none⟩ (arr_at _ _) (by decide) (wl_load rfl rfl (load_byte7 ag_u8 hb (by rw [(dgs_len _ _)];omega)) (by decide) (wl_op rfl rfl rfl (r:= .int .u8 ((((dgs n (sv0 M n)).getD (n-1) 0)%2:Nat):Int)) rfl (fun w=>u8_and1 (x:=(dgs n (sv0 M n)).getD (n-1) 0) (by omega) _ _ w) (by decide) (wl_cmp rfl rfl rfl false (cb_eq_f (a:=((dgs n (sv0 M n)).getD (n-1) 0)%2) (b:=1) rfl rfl (by omega)) (by decide) (mv 1 rfl (wl_nil (eo_mid (⟨wr,false⟩:World×Bool) ⟨hw1,hb,hbx,(by rw [decide_eq_false (by omega)])⟩ rfl ⟨rfl,rfl,rfl,rfl,rfl,rfl,trivial⟩)))))))))
       · 
        rintro⟨wr,od⟩ ⟨hw1,hb,hbx,hod⟩
        refine cw_re [(1,.int .i64 ((n:Nat):Int)),(2,.pointer (some ⟨g1,0,none⟩)),(6,.string (strB s)),(7,.int .i64 ((s.length-1:Nat):Int)),(8,.slice (some ⟨g9,0,none⟩) n n),(10,.bool od)] wr rfl ⟨rfl,rfl,rfl,rfl,rfl,rfl,trivial⟩ (cw_seq ?_)
        have hr256:∀b,b∈s.drop (n+1)→b<256:=fun b hb=>hs256 b (List.mem_of_mem_drop hb)
        have hrl:(s.drop (n+1)).length=s.length-(n+1):=List.length_drop
        refine cw_region (mv 2 rfl (wl_ar rfl rfl rfl ((n+1:Nat):Int) (ai_add (a:=n) (b:=1) rfl rfl (by omega)) (by decide) (wl_strlo (bs:=s) (i:=n+1) rfl rfl rfl Tryd.underlying9 (by omega) (by decide) (wl_range (bs:=s.drop (n+1)) rfl rfl Tryd.underlying9 (by decide) fun g37 v38 hg39 it40 e41=>?_))))
        have ge42:w.heap.size≤g37:=by rw [←hg39];exact hw1.size
        have q43:g9<g37:=by rw [←hg39];exact (hb).lt
        have q44:g1<g37:=by rw [←hg39];exact (hbx).lt
        clear hg39
        have hw2:=hw1.trans e41
        refine ne_ (cw_block ?_)
        refine cw_loop (T:=World×Nat×Bool)
         (fun⟨wr,p,mo⟩=> [(1,.int .i64 ((n:Nat):Int)),(2,.pointer (some ⟨g1,0,none⟩)),(6,.string (strB s)),(7,.int .i64 ((s.length-1:Nat):Int)),(8,.slice (some ⟨g9,0,none⟩) n n),(10,.bool mo),(73,.pointer (some ⟨g37,0,none⟩))])
         (fun⟨wr,p,mo⟩=>wr)
         (fun⟨wr,p,mo⟩=>(Ext w wr)∧(Bk wr g9 5 ((dgs n (sv0 M n)).map B8))∧(Bk wr g1 24 [.bool sa,.slice Aa na ca])∧(It wr g37 (s.drop (n+1)) p)∧(p≤(s.drop (n+1)).length)∧(mo=true↔od=true∨∃i,i<p∧(s.drop (n+1)).getD i 0≠48))
         (fun⟨wr,p,mo⟩=>(s.drop (n+1)).length-p)
         (⟨v38,0,od⟩:World×Nat×Bool) ⟨hw2,(hb.ext e41),(hbx.ext e41),it40,(Nat.zero_le _),(by simp)⟩ rfl ⟨rfl,rfl,rfl,rfl,rfl,rfl,rfl,trivial⟩ ?_
        rintro⟨wr,p,mo⟩ ⟨hw1,hb,hbx,hit,hp,hmo⟩
        refine cw_re [(1,.int .i64 ((n:Nat):Int)),(2,.pointer (some ⟨g1,0,none⟩)),(6,.string (strB s)),(7,.int .i64 ((s.length-1:Nat):Int)),(8,.slice (some ⟨g9,0,none⟩) n n),(10,.bool mo),(73,.pointer (some ⟨g37,0,none⟩))] wr rfl ⟨rfl,rfl,rfl,rfl,rfl,rfl,rfl,trivial⟩ (cw_seq ?_)
        by_cases hlt:p<(s.drop (n+1)).length
        · 
         have hc128:(s.drop (n+1)).getD p 0<128:=by have:=getD_mem0 hlt;have:=(hsd▸(fun c (hc:c∈s)=>hc):∀c,c∈s→c∈dgs (kL+1) M) _ (List.mem_of_mem_drop this);have:=dgs_digit this;omega
         refine cw_region ?_
         have it45:=hit
         refine wl_nextR rfl rfl hr256 it45 (by omega) (by decide) fun v46 r47 z48 hr49 it50 u51=>?_
         have hw2:=u51.ext hw1 ge42
         obtain⟨rfl,rfl⟩:=hr49.low (by omega)
         refine pu (v:= .bool true) rfl (by kernel_rfl) (ne_ (cw_seq (cw_true rfl (cw_skip (eo_then (cw_block (sr (pu (v:= .int .i32 (((s.drop (n+1)).getD p 0:Nat):Int)) rfl (by kernel_rfl) (mv 1 rfl (ne_ ?_))))))))))
         cases mo
         · 
          by_cases hne:(s.drop (n+1)).getD p 0≠48
          · 
           refine cw_region (mv 3 rfl (wl_cmp rfl rfl rfl true (cb_ne_t (a:=(s.drop (n+1)).getD p 0) (b:=48) rfl rfl (by omega)) (by decide) (pu (v:= .bool true) rfl (by kernel_rfl) (mv 1 rfl (wl_nil (eo_block_normal (eo_round (⟨v46,p+1,true⟩:World×Nat×Bool) ⟨hw2,(hb.updN u51 (by omega)),(hbx.updN u51 (by omega)),it50,(by omega),(more_yes (Or.inr hne))⟩ (show (s.drop (n+1)).length-(p+1)<(s.drop (n+1)).length-p by omega) rfl ⟨rfl,rfl,rfl,rfl,rfl,rfl,rfl,trivial⟩)))))))
          · 
           refine cw_region (mv 3 rfl (wl_cmp rfl rfl rfl false (cb_ne_f (a:=(s.drop (n+1)).getD p 0) (b:=48) rfl rfl (by omega)) (by decide) (pu (v:= .bool false) rfl (by kernel_rfl) (mv 1 rfl (wl_nil (eo_block_normal (eo_round (⟨v46,p+1,false⟩:World×Nat×Bool) ⟨hw2,(hb.updN u51 (by omega)),(hbx.updN u51 (by omega)),it50,(by omega),(more_step hmo (by omega))⟩ (show (s.drop (n+1)).length-(p+1)<(s.drop (n+1)).length-p by omega) rfl ⟨rfl,rfl,rfl,rfl,rfl,rfl,rfl,trivial⟩)))))))
         · 
          refine cw_region (mv 4 rfl (pu (v:= .bool true) rfl (by kernel_rfl) (mv 1 rfl (wl_nil (eo_block_normal (eo_round (⟨v46,p+1,true⟩:World×Nat×Bool) ⟨hw2,(hb.updN u51 (by omega)),(hbx.updN u51 (by omega)),it50,(by omega),(more_yes (Or.inl (hmo.1 rfl)))⟩ (show (s.drop (n+1)).length-(p+1)<(s.drop (n+1)).length-p by omega) rfl ⟨rfl,rfl,rfl,rfl,rfl,rfl,rfl,trivial⟩))))))
        · 
         have hpe:p=(s.drop (n+1)).length:=by omega
         subst hpe
         have hrest:=rest_iff hsd (show n<kL+1 by omega)
         refine cw_region ?_
         have it52:=hit
         refine wl_next_end rfl rfl it52 (by omega) (by decide) (pu (v:= .bool false) rfl (by kernel_rfl) (ne_ (cw_seq (cw_false rfl (cw_exit (eo_thenX (eo_loopX (eo_block_here (eo_mid (⟨wr,mo⟩:World×Bool) ⟨hw1,hb,hbx,(by rw [hLn,rup_five h5,←hsv,hmo,hod,decide_eq_true_eq,hrest])⟩ rfl ⟨rfl,rfl,rfl,rfl,rfl,trivial⟩)))))))))
      · 
       refine cw_region (mv 2 rfl (wl_strix (bs:=s) (i:=n) rfl rfl rfl Tryd.underlying9 hs256 (by omega) (by decide) (wl_cmp rfl rfl rfl false (cb_eq_f (a:=s.getD n 0) (b:=53) rfl rfl (by omega)) (by decide) (ne_ (cw_false rfl (cw_skip (eo_mid (⟨wr,false⟩:World×Bool) ⟨hw1,hb,hbx,(by rw [hLn];exact⟨fun h=>(by cases h),fun h=>absurd h (rup_lt (by omega))⟩)⟩ rfl ⟨rfl,rfl,rfl,rfl,rfl,trivial⟩)))))))
     · 
      rintro⟨wr,mo⟩ ⟨hw1,hb,hbx,hmo⟩
      refine cw_re [(1,.int .i64 ((n:Nat):Int)),(2,.pointer (some ⟨g1,0,none⟩)),(7,.int .i64 ((s.length-1:Nat):Int)),(8,.slice (some ⟨g9,0,none⟩) n n),(10,.bool mo)] wr rfl ⟨rfl,rfl,rfl,rfl,rfl,trivial⟩ (cw_seq ?_)
      cases mo
      · 
       have hsq:=sci_none (fun h=>by have:=hmo.2 h.2;cases this) hM0 hn1
       refine cw_region (mv 4 rfl (pu (v:= .bool false) rfl (by kernel_rfl) (ne_ (cw_false rfl (cw_skip (eo_mid (⟨wr,s.length-1,sciQ M n⟩:World×Nat×Nat) ⟨hw1,(by rw [hsq.1];exact hb),hbx,(by rw [hsq.2,hkL,hsl]),rfl,(by omega)⟩ rfl ⟨rfl,rfl,rfl,rfl,trivial⟩))))))
      · 
       have hr:=hmo.1 rfl
       by_cases hov:sv0 M n+1=10^n
       · 
        have hsq:=sci_over ⟨hnL,hr⟩ hov
        refine cw_region (mv 3 rfl (wl_call rfl rfl (vs:= [.slice (some ⟨g9,0,none⟩) n n]) (by kernel_rfl) (by decide) (g_up hb (sv0_lt hM0 hn1).1 hn1 (by omega)) ?_))
        rintro _ v53 ⟨rfl,u54,hb55⟩
        refine ret_intro ?_
        rw [decide_eq_true hov]
        have hw2:=u54.ext hw1 ge14
        refine pu (v:= .bool true) rfl (by kernel_rfl) (ne_ (cw_true rfl (sr (mv 1 rfl (wl_idx rfl rfl rfl un_u8 sz_u8 0 rfl (by omega) ⟨g9,0,none⟩ (arr_at _ _) (by decide) (wl_stored1 rfl rfl rfl sz_u8 rfl hb55 (len_map (by rw [(dgs_len _ _)];omega)) rfl (((dgs n (sv0 M n+1)).set 0 49).map B8) (map_B8_set _ _ _) fun v56 hb58 u59 hs60=>?_))))))
        have hw3:=u59.ext hw2 ge14
        refine ne_ (cw_region (mv 1 rfl (wl_ar rfl rfl rfl (((s.length-1)+1:Nat):Int) (ai_add (a:=s.length-1) (b:=1) rfl rfl (by omega)) (by decide) (mv 1 rfl (wl_nil (eo_mid (⟨v56,(s.length-1)+1,sciQ M n⟩:World×Nat×Nat) ⟨hw3,(by rw [hsq.1,←dgs_one hn1,←hov];exact hb58),((hbx.updN u54 (by omega)).updN u59 (by omega)),(by rw [hsq.2,hkL,hsl];omega),rfl,(by omega)⟩ rfl ⟨rfl,rfl,rfl,rfl,trivial⟩))))))
       · 
        have hsq:=sci_up ⟨hnL,hr⟩ hov
        refine cw_region (mv 3 rfl (wl_call rfl rfl (vs:= [.slice (some ⟨g9,0,none⟩) n n]) (by kernel_rfl) (by decide) (g_up hb (sv0_lt hM0 hn1).1 hn1 (by omega)) ?_))
        rintro _ v61 ⟨rfl,u62,hb63⟩
        refine ret_intro ?_
        rw [decide_eq_false hov]
        have hw2:=u62.ext hw1 ge14
        refine pu (v:= .bool false) rfl (by kernel_rfl) (ne_ (cw_false rfl (cw_skip (eo_mid (⟨v61,s.length-1,sciQ M n⟩:World×Nat×Nat) ⟨hw2,(by rw [hsq.1];exact hb63),(hbx.updN u62 (by omega)),(by rw [hsq.2,hkL,hsl]),rfl,(by omega)⟩ rfl ⟨rfl,rfl,rfl,rfl,trivial⟩))))
   · 
    have hnL:¬(n<dL M∧rup M (dL M-n)):=fun h=>by have:=h.1;rw [hkL] at this;omega
    have hsq:=sci_none hnL hM0 hn1
    refine cw_region (mv 1 rfl (wl_pureE rfl rfl (v:= .int .i64 (((strB s).size:Nat):Int)) (v':= .int .i64 ((s.length:Nat):Int)) (by decide) (by kernel_rfl) (by rw [strB_size]) (mv 1 rfl (wl_cmp rfl rfl rfl false (cb_gt_f (a:=s.length) (b:=n) rfl rfl (by omega)) (by decide) (ne_ (cw_false rfl (cw_skip (eo_mid (⟨wr,s.length-1,sciQ M n⟩:World×Nat×Nat) ⟨hw1,(by rw [hsq.1];exact hb),hbx,(by rw [hsq.2,hkL,hsl]),rfl,(by omega)⟩ rfl ⟨rfl,rfl,rfl,rfl,trivial⟩))))))))
  · 
   rintro⟨wr,X,Q⟩ ⟨hw1,hb,hbx,hX,hQ,hXl⟩
   refine cw_re [(1,.int .i64 ((n:Nat):Int)),(2,.pointer (some ⟨g1,0,none⟩)),(7,.int .i64 ((X:Nat):Int)),(8,.slice (some ⟨g9,0,none⟩) n n)] wr rfl ⟨rfl,rfl,rfl,rfl,trivial⟩ (sr (mv 1 rfl (ne_ (cw_seq (cw_seq ?_)))))
   by_cases hx0:x<0
   · 
    refine cw_region (lo aggInt hbx [.bool sa,.slice Aa na ca] rfl rfl rfl (cl (vs:= [.agg #[.bool sa,.slice Aa na ca]]) hw1 (g_zint_Sign (hx.ext hw1) (lx_ la rfl)) rfl (by kernel_rfl) fun xr66 v64 r66 e65 hw2=>?_))
    obtain rfl:=r66
    refine wl_cmp rfl rfl rfl true (scmp_lt_t hx0) (by decide) (ne_ (cw_true rfl (cw_region (mv 1 rfl (ne_ (cw_seq ?_))))))
    have hT17:True:=trivial
    refine cw_region (mv 2 rfl ?_)
    have rb67:Rb 256 v64 (some ⟨g9,0,none⟩:Option Addr) n n (dgs n Q):=bk_rb (hb.ext e65) (dgs_len _ _) (by omega) b8_lt
    refine wl_slice rfl rfl un_u8 sz_u8 (lo:=0) (hi:=1) rfl rfl (by omega) (by have:=rb67.rv.le;omega) (v:= .slice (some ⟨g9,0,none⟩:Option Addr) 1 n) (slice_to8 _ _ _) (by decide) (wl_toStrR (bs:=(dgs n Q).take 1) rfl rfl ((rb67.take (k:=1) (by omega))).rv (by decide) (wl_op rfl rfl rfl (r:= .string (strB (([45])++((dgs n Q).take 1)))) rfl (fun w=>str_add (a:= [45]) (b:=(dgs n Q).take 1) (by have:=hT17;simp only [List.length_append,List.length_take,List.length_drop,List.length_cons,List.length_nil,dgs_len];omega)) (by decide) (mv 1 rfl (ne_ (cw_seq (cw_seq ?_))))))
    by_cases hn2:n>1
    · 
     refine cw_region (mv 1 rfl (wl_cmp rfl rfl rfl true (cb_gt_t (a:=n) (b:=1) rfl rfl (by omega)) (by decide) (ne_ (cw_true rfl (cw_region (mv 2 rfl ?_))))))
     have rb68:Rb 256 v64 (some ⟨g9,0,none⟩:Option Addr) n n (dgs n Q):=bk_rb (hb.ext e65) (dgs_len _ _) (by omega) b8_lt
     refine wl_slice rfl rfl un_u8 sz_u8 (lo:=1) (hi:=n) rfl rfl (by omega) (by have:=rb68.rv.le;omega) (v:= .slice (if n=1 then (some ⟨g9,0,none⟩:Option Addr) else (some ⟨g9,0,none⟩:Option Addr).map (·.add (1*1))) (n-1) (n-1)) (slice_from _ _ _ _) (by decide) (wl_toStrR (bs:=(dgs n Q).drop 1) rfl rfl ((rb68.drop (k:=1) (by omega))).rv (by decide) (wl_op rfl rfl rfl (r:= .string (strB (([46])++((dgs n Q).drop 1)))) rfl (fun w=>str_add (a:= [46]) (b:=(dgs n Q).drop 1) (by have:=hT17;simp only [List.length_append,List.length_take,List.length_drop,List.length_cons,List.length_nil,dgs_len];omega)) (by decide) (wl_op rfl rfl rfl (r:= .string (strB ((([45])++((dgs n Q).take 1))++(([46])++((dgs n Q).drop 1))))) rfl (fun w=>str_add (a:=([45])++((dgs n Q).take 1)) (b:=([46])++((dgs n Q).drop 1)) (by have:=hT17;simp only [List.length_append,List.length_take,List.length_drop,List.length_cons,List.length_nil,dgs_len];omega)) (by decide) (mv 1 rfl (ne_ (cw_seq ?_))))))
     have hT17:(txtN 10 X).length≤65:=txtN_len (b:=10) (n:=1) (by decide) (len_w64a (by omega))
     refine cw_region (mv 1 rfl (wl_op rfl rfl rfl (r:= .string (strB (((([45])++((dgs n Q).take 1))++(([46])++((dgs n Q).drop 1)))++([101])))) rfl (fun w=>str_add (a:=(([45])++((dgs n Q).take 1))++(([46])++((dgs n Q).drop 1))) (b:= [101]) (by have:=hT17;simp only [List.length_append,List.length_take,List.length_drop,List.length_cons,List.length_nil,dgs_len];omega)) (by decide) (mv 1 rfl (cl (vs:= [.int .i64 ((X:Nat):Int)]) hw2 (g_zint_Of hw2.size (by omega) (by omega)) rfl (by kernel_rfl) fun xr71 v69 r71 e70 hw3=>?_))))
     obtain⟨s72,A72,n72,c72,rfl,z72⟩:=r71
     refine cl (vs:= [.agg #[.bool s72,.slice A72 n72 c72]]) hw3 (g_ztext_n z72.zi (z72.le (Nat.le_trans (show ln ((X:Nat):Int)≤1 by rw [ln_nat];exact len_w64a (by omega)) (by decide))) (hS.ext hw3)) rfl (by kernel_rfl) fun xr75 v73 r75 e74 hw4=>?_
     obtain rfl:=r75
     refine wl_op rfl rfl rfl (r:= .string (strB ((((([45])++((dgs n Q).take 1))++(([46])++((dgs n Q).drop 1)))++([101]))++(txtN 10 X)))) rfl (fun w=>str_add (a:=((([45])++((dgs n Q).take 1))++(([46])++((dgs n Q).drop 1)))++([101])) (b:=txtN 10 X) (by have:=hT17;simp only [List.length_append,List.length_take,List.length_drop,List.length_cons,List.length_nil,dgs_len];omega)) (by decide) (mv 2 rfl (ne_ (cw_ret (eo_ret [.string (strB ((((([45])++((dgs n Q).take 1))++(([46])++((dgs n Q).drop 1)))++([101]))++(txtN 10 X))),I0] rfl ⟨rfl,rfl,trivial⟩ ?_))))
     have ht:((((([45])++((dgs n Q).take 1))++(([46])++((dgs n Q).drop 1)))++([101]))++(txtN 10 X):List Nat)=sciT x n:=by unfold sciT sciD;rw [if_neg hx00,if_pos hx0,←hM,←hX,←hQ];rw [if_pos (show 1<n by omega)];simp only [List.append_assoc,List.nil_append,List.append_nil]
     exact⟨_,rfl,⟨_,_,rfl,(show Value.string _=Value.string _ from congrArg (fun l=>Value.string (strB l)) ht),rfl⟩,hw4⟩
    · 
     refine cw_region (mv 1 rfl (wl_cmp rfl rfl rfl false (cb_gt_f (a:=n) (b:=1) rfl rfl (by omega)) (by decide) (ne_ (cw_false rfl (cw_skip (eo_then (cw_seq ?_)))))))
     have hT17:(txtN 10 X).length≤65:=txtN_len (b:=10) (n:=1) (by decide) (len_w64a (by omega))
     refine cw_region (mv 1 rfl (wl_op rfl rfl rfl (r:= .string (strB ((([45])++((dgs n Q).take 1))++([101])))) rfl (fun w=>str_add (a:=([45])++((dgs n Q).take 1)) (b:= [101]) (by have:=hT17;simp only [List.length_append,List.length_take,List.length_drop,List.length_cons,List.length_nil,dgs_len];omega)) (by decide) (mv 1 rfl (cl (vs:= [.int .i64 ((X:Nat):Int)]) hw2 (g_zint_Of hw2.size (by omega) (by omega)) rfl (by kernel_rfl) fun xr78 v76 r78 e77 hw3=>?_))))
     obtain⟨s79,A79,n79,c79,rfl,z79⟩:=r78
     refine cl (vs:= [.agg #[.bool s79,.slice A79 n79 c79]]) hw3 (g_ztext_n z79.zi (z79.le (Nat.le_trans (show ln ((X:Nat):Int)≤1 by rw [ln_nat];exact len_w64a (by omega)) (by decide))) (hS.ext hw3)) rfl (by kernel_rfl) fun xr82 v80 r82 e81 hw4=>?_
     obtain rfl:=r82
     refine wl_op rfl rfl rfl (r:= .string (strB (((([45])++((dgs n Q).take 1))++([101]))++(txtN 10 X)))) rfl (fun w=>str_add (a:=(([45])++((dgs n Q).take 1))++([101])) (b:=txtN 10 X) (by have:=hT17;simp only [List.length_append,List.length_take,List.length_drop,List.length_cons,List.length_nil,dgs_len];omega)) (by decide) (mv 2 rfl (ne_ (cw_ret (eo_ret [.string (strB (((([45])++((dgs n Q).take 1))++([101]))++(txtN 10 X))),I0] rfl ⟨rfl,rfl,trivial⟩ ?_))))
     have ht:(((([45])++((dgs n Q).take 1))++([101]))++(txtN 10 X):List Nat)=sciT x n:=by unfold sciT sciD;rw [if_neg hx00,if_pos hx0,←hM,←hX,←hQ];rw [if_neg (show¬1<n by omega)];simp only [List.append_assoc,List.nil_append,List.append_nil]
     exact⟨_,rfl,⟨_,_,rfl,(show Value.string _=Value.string _ from congrArg (fun l=>Value.string (strB l)) ht),rfl⟩,hw4⟩
   · 
    refine cw_region (lo aggInt hbx [.bool sa,.slice Aa na ca] rfl rfl rfl (cl (vs:= [.agg #[.bool sa,.slice Aa na ca]]) hw1 (g_zint_Sign (hx.ext hw1) (lx_ la rfl)) rfl (by kernel_rfl) fun xr85 v83 r85 e84 hw2=>?_))
    obtain rfl:=r85
    refine wl_cmp rfl rfl rfl false (scmp_lt_f (by omega)) (by decide) (ne_ (cw_false rfl (cw_skip (eo_then (cw_seq ?_)))))
    have hT17:True:=trivial
    refine cw_region (mv 2 rfl ?_)
    have rb86:Rb 256 v83 (some ⟨g9,0,none⟩:Option Addr) n n (dgs n Q):=bk_rb (hb.ext e84) (dgs_len _ _) (by omega) b8_lt
    refine wl_slice rfl rfl un_u8 sz_u8 (lo:=0) (hi:=1) rfl rfl (by omega) (by have:=rb86.rv.le;omega) (v:= .slice (some ⟨g9,0,none⟩:Option Addr) 1 n) (slice_to8 _ _ _) (by decide) (wl_toStrR (bs:=(dgs n Q).take 1) rfl rfl ((rb86.take (k:=1) (by omega))).rv (by decide) (wl_op rfl rfl rfl (r:= .string (strB (([])++((dgs n Q).take 1)))) rfl (fun w=>str_add (a:= []) (b:=(dgs n Q).take 1) (by have:=hT17;simp only [List.length_append,List.length_take,List.length_drop,List.length_cons,List.length_nil,dgs_len];omega)) (by decide) (mv 1 rfl (ne_ (cw_seq (cw_seq ?_))))))
    by_cases hn2:n>1
    · 
     refine cw_region (mv 1 rfl (wl_cmp rfl rfl rfl true (cb_gt_t (a:=n) (b:=1) rfl rfl (by omega)) (by decide) (ne_ (cw_true rfl (cw_region (mv 2 rfl ?_))))))
     have rb87:Rb 256 v83 (some ⟨g9,0,none⟩:Option Addr) n n (dgs n Q):=bk_rb (hb.ext e84) (dgs_len _ _) (by omega) b8_lt
     refine wl_slice rfl rfl un_u8 sz_u8 (lo:=1) (hi:=n) rfl rfl (by omega) (by have:=rb87.rv.le;omega) (v:= .slice (if n=1 then (some ⟨g9,0,none⟩:Option Addr) else (some ⟨g9,0,none⟩:Option Addr).map (·.add (1*1))) (n-1) (n-1)) (slice_from _ _ _ _) (by decide) (wl_toStrR (bs:=(dgs n Q).drop 1) rfl rfl ((rb87.drop (k:=1) (by omega))).rv (by decide) (wl_op rfl rfl rfl (r:= .string (strB (([46])++((dgs n Q).drop 1)))) rfl (fun w=>str_add (a:= [46]) (b:=(dgs n Q).drop 1) (by have:=hT17;simp only [List.length_append,List.length_take,List.length_drop,List.length_cons,List.length_nil,dgs_len];omega)) (by decide) (wl_op rfl rfl rfl (r:= .string (strB ((([])++((dgs n Q).take 1))++(([46])++((dgs n Q).drop 1))))) rfl (fun w=>str_add (a:=([])++((dgs n Q).take 1)) (b:=([46])++((dgs n Q).drop 1)) (by have:=hT17;simp only [List.length_append,List.length_take,List.length_drop,List.length_cons,List.length_nil,dgs_len];omega)) (by decide) (mv 1 rfl (ne_ (cw_seq ?_))))))
     have hT17:(txtN 10 X).length≤65:=txtN_len (b:=10) (n:=1) (by decide) (len_w64a (by omega))
     refine cw_region (mv 1 rfl (wl_op rfl rfl rfl (r:= .string (strB (((([])++((dgs n Q).take 1))++(([46])++((dgs n Q).drop 1)))++([101])))) rfl (fun w=>str_add (a:=(([])++((dgs n Q).take 1))++(([46])++((dgs n Q).drop 1))) (b:= [101]) (by have:=hT17;simp only [List.length_append,List.length_take,List.length_drop,List.length_cons,List.length_nil,dgs_len];omega)) (by decide) (mv 1 rfl (cl (vs:= [.int .i64 ((X:Nat):Int)]) hw2 (g_zint_Of hw2.size (by omega) (by omega)) rfl (by kernel_rfl) fun xr90 v88 r90 e89 hw3=>?_))))
     obtain⟨s91,A91,n91,c91,rfl,z91⟩:=r90
     refine cl (vs:= [.agg #[.bool s91,.slice A91 n91 c91]]) hw3 (g_ztext_n z91.zi (z91.le (Nat.le_trans (show ln ((X:Nat):Int)≤1 by rw [ln_nat];exact len_w64a (by omega)) (by decide))) (hS.ext hw3)) rfl (by kernel_rfl) fun xr94 v92 r94 e93 hw4=>?_
     obtain rfl:=r94
     refine wl_op rfl rfl rfl (r:= .string (strB ((((([])++((dgs n Q).take 1))++(([46])++((dgs n Q).drop 1)))++([101]))++(txtN 10 X)))) rfl (fun w=>str_add (a:=((([])++((dgs n Q).take 1))++(([46])++((dgs n Q).drop 1)))++([101])) (b:=txtN 10 X) (by have:=hT17;simp only [List.length_append,List.length_take,List.length_drop,List.length_cons,List.length_nil,dgs_len];omega)) (by decide) (mv 2 rfl (ne_ (cw_ret (eo_ret [.string (strB ((((([])++((dgs n Q).take 1))++(([46])++((dgs n Q).drop 1)))++([101]))++(txtN 10 X))),I0] rfl ⟨rfl,rfl,trivial⟩ ?_))))
     have ht:((((([])++((dgs n Q).take 1))++(([46])++((dgs n Q).drop 1)))++([101]))++(txtN 10 X):List Nat)=sciT x n:=by unfold sciT sciD;rw [if_neg hx00,if_neg hx0,←hM,←hX,←hQ];rw [if_pos (show 1<n by omega)];simp only [List.append_assoc,List.nil_append,List.append_nil]
     exact⟨_,rfl,⟨_,_,rfl,(show Value.string _=Value.string _ from congrArg (fun l=>Value.string (strB l)) ht),rfl⟩,hw4⟩
    · 
     refine cw_region (mv 1 rfl (wl_cmp rfl rfl rfl false (cb_gt_f (a:=n) (b:=1) rfl rfl (by omega)) (by decide) (ne_ (cw_false rfl (cw_skip (eo_then (cw_seq ?_)))))))
     have hT17:(txtN 10 X).length≤65:=txtN_len (b:=10) (n:=1) (by decide) (len_w64a (by omega))
     refine cw_region (mv 1 rfl (wl_op rfl rfl rfl (r:= .string (strB ((([])++((dgs n Q).take 1))++([101])))) rfl (fun w=>str_add (a:=([])++((dgs n Q).take 1)) (b:= [101]) (by have:=hT17;simp only [List.length_append,List.length_take,List.length_drop,List.length_cons,List.length_nil,dgs_len];omega)) (by decide) (mv 1 rfl (cl (vs:= [.int .i64 ((X:Nat):Int)]) hw2 (g_zint_Of hw2.size (by omega) (by omega)) rfl (by kernel_rfl) fun xr97 v95 r97 e96 hw3=>?_))))
     obtain⟨s98,A98,n98,c98,rfl,z98⟩:=r97
     refine cl (vs:= [.agg #[.bool s98,.slice A98 n98 c98]]) hw3 (g_ztext_n z98.zi (z98.le (Nat.le_trans (show ln ((X:Nat):Int)≤1 by rw [ln_nat];exact len_w64a (by omega)) (by decide))) (hS.ext hw3)) rfl (by kernel_rfl) fun xr101 v99 r101 e100 hw4=>?_
     obtain rfl:=r101
     refine wl_op rfl rfl rfl (r:= .string (strB (((([])++((dgs n Q).take 1))++([101]))++(txtN 10 X)))) rfl (fun w=>str_add (a:=(([])++((dgs n Q).take 1))++([101])) (b:=txtN 10 X) (by have:=hT17;simp only [List.length_append,List.length_take,List.length_drop,List.length_cons,List.length_nil,dgs_len];omega)) (by decide) (mv 2 rfl (ne_ (cw_ret (eo_ret [.string (strB (((([])++((dgs n Q).take 1))++([101]))++(txtN 10 X))),I0] rfl ⟨rfl,rfl,trivial⟩ ?_))))
     have ht:(((([])++((dgs n Q).take 1))++([101]))++(txtN 10 X):List Nat)=sciT x n:=by unfold sciT sciD;rw [if_neg hx00,if_neg hx0,←hM,←hX,←hQ];rw [if_neg (show¬1<n by omega)];simp only [List.append_assoc,List.nil_append,List.append_nil]
     exact⟨_,rfl,⟨_,_,rfl,(show Value.string _=Value.string _ from congrArg (fun l=>Value.string (strB l)) ht),rfl⟩,hw4⟩
end Go.Proofs.YtipklngcpmkfhaaDoor

namespace Go.Proofs.YtipklngcpmkfhaaDoor
open Go.RowKit
open Ieee
theorem dbl_sw:double.signWeight=9223372036854775808:=by decide
theorem dbl_bin:double.binade=4503599627370496:=by decide
theorem dbl_inf:double.infRung=9218868437227405312:=by decide
theorem dbl_lp:double.leastPlace= -1074:=by decide
def mg (b:Nat):Nat:=b%9223372036854775808
def fin (b:Nat):Prop:=mg b<9218868437227405312
instance (b:Nat):Decidable (fin b):=inferInstanceAs (Decidable (_<_))
theorem read_fin {b:Nat}(h:fin b):∃m e,double.read b= .number (b/9223372036854775808%2==1) m e∧(m=0↔mg b=0):=by
 unfold fin mg at h
 unfold Format.read mg
 simp only [dbl_sw,dbl_bin,dbl_inf]
 by_cases h1:b%9223372036854775808<4503599627370496
 ·exact⟨_,_,by rw [if_pos h1],Iff.rfl⟩
 ·exact⟨_,_,by rw [if_neg h1,if_pos h],by omega⟩
theorem read_not {b:Nat}(h:¬fin b):(∃s,double.read b= .infinity s)∨(∃s t,double.read b= .nan s t):=by
 unfold fin mg at h
 unfold Format.read
 simp only [dbl_sw,dbl_bin,dbl_inf]
 rw [if_neg (by omega),if_neg (by omega)]
 by_cases h1:b%9223372036854775808=9218868437227405312
 ·exact Or.inl ⟨_,by rw [if_pos h1]⟩
 ·exact Or.inr ⟨_,_,by rw [if_neg h1]⟩
theorem read_zero:double.read 0= .number false 0 (-1074):=by decide
theorem order_zero {b:Nat}(h:fin b):double.order b 0=some (if mg b=0 then .eq else if b/9223372036854775808%2=1 then .lt else .gt):=by
 obtain⟨m,e,hr,hz⟩:=read_fin h
 unfold Format.order
 rw [hr,read_zero]
 simp only [Datum.order]
 have e0:signed false 0 (-1074-min e (-1074)).toNat=0:=by unfold signed;simp
 rw [e0]
 generalize (e-min e (-1074)).toNat=k
 have hk:m <<< k=m*2^k:=Nat.shiftLeft_eq m k
 have hp:0<2^k:=Nat.two_pow_pos k
 congr 1
 by_cases h0:mg b=0
 ·have hm:m=0:=hz.2 h0
  subst hm
  rw [if_pos h0]
  unfold signed
  simp
 ·have hm:0<m:=Nat.pos_of_ne_zero fun e=>h0 (hz.1 e)
  have hmk:0<m*2^k:=Nat.mul_pos hm hp
  rw [if_neg h0]
  unfold signed
  rw [hk]
  by_cases hs:b/9223372036854775808%2=1
  ·rw [if_pos hs,hs]
   simp only [beq_self_eq_true,if_true]
   rw [Int.compare_eq_lt];omega
  ·have hs0:b/9223372036854775808%2=0:=by omega
   rw [if_neg hs,hs0]
   simp only [show ((0:Nat)==1)=false from rfl,Bool.false_eq_true,if_false]
   rw [Int.compare_eq_gt];omega
theorem order_zero_not {b:Nat}(h:¬fin b):(double.order b 0==some .eq)=false:=by
 unfold Format.order
 rw [read_zero]
 rcases read_not h with⟨s,hr⟩ | ⟨s,t,hr⟩
 ·rw [hr];cases s <;> rfl
 ·rw [hr];rfl
theorem sub_not {b:Nat}(h:¬fin b):double.sub b b=none:=by
 unfold Format.sub
 rcases read_not h with⟨s,hr⟩ | ⟨s,t,hr⟩
 ·rw [hr];cases s <;> rfl
 ·rw [hr];rfl
end Go.Proofs.YtipklngcpmkfhaaDoor

namespace Go.Proofs.YtipklngcpmkfhaaDoor
open Go.RowKit
abbrev I6 (x:Nat):Value:= .int .i64 (x:Int)
structure Ri (b:Nat) (w:World) (A:Option Addr) (n cap:Nat) (ds:List Nat):Prop where
 rv:Rv w 1 A n cap (ds.map I6)
 wf:Wfb b ds
theorem Ri.ext {b:Nat}{w w':World}{A:Option Addr}{n cap:Nat}{xs:List Nat}(h:Ri b w A n cap xs) (e:Ext w w'):Ri b w' A n cap xs:=⟨h.rv.ext e,h.wf⟩
theorem Ri.len {b:Nat}{w:World}{A:Option Addr}{n cap:Nat}{xs:List Nat}(h:Ri b w A n cap xs):xs.length=n:=by simpa using h.rv.len
theorem Ri.get {b:Nat}(hb:0<b){w:World}{A:Option Addr}{n cap:Nat}{xs:List Nat}(h:Ri b w A n cap xs){i:Nat}(hi:i<n):
  ∃a x,A=some a∧Hid (xs.getD i 0=x)∧x<b∧w.cell? (a.add i)=some (.int .i64 (x:Int)):=by
 obtain⟨a,ha,hc⟩:=h.rv.get i (by omega)
 have hl:i<xs.length:=by rw [h.len];exact hi
 refine⟨a,_,ha,rfl,Wfb_getD hb h.wf i,?_⟩
 rw [hc]
 simp [List.getD_eq_getElem?_getD,List.getElem?_map,List.getElem?_eq_getElem hl]
theorem Bk.digit {b:Nat}(hb:0<b){w:World}{g:Nat}{t:TypeId}{xs:List Nat}(h:Bk w g t (xs.map I6)) (hw:Wfb b xs){i:Nat}(hi:i<xs.length):
  ∃x,Hid (xs.getD i 0=x)∧x<b∧w.cell? ⟨g,i,none⟩=some (.int .i64 (x:Int)):=by
 refine⟨_,rfl,Wfb_getD hb hw i,?_⟩
 rw [h.cell (by simpa using hi)]
 simp [List.getD_eq_getElem?_getD,List.getElem?_map,List.getElem?_eq_getElem hi]
theorem Rv.take {w:World}{s:Nat}{A:Option Addr}{n cap:Nat}{vs:List Value}(h:Rv w s A n cap vs){k m:Nat}(hk:k≤n) (hm:k≤m) (hc:m≤cap):Rv w s A k m (vs.take (k*s)):=by
 have:=h.cut (l:=0) (Nat.zero_le _) hk hm hc
 simp only [Nat.sub_zero,Nat.zero_mul,List.drop_zero] at this
 have e:(if m=0 then A else A.map (·.add 0))=A:=by
  have h0:∀a:Addr,a.add 0=a:=fun a=>by simp [Addr.add]
  split
  ·rfl
  ·cases A <;> simp [h0]
 rwa [e] at this
theorem Own.take {w:World}{base:Nat}{t:TypeId}{s:Nat}{A:Option Addr}{n cap:Nat}{vs:List Value}(h:Own w base t s A n cap vs){k:Nat}(hk:k≤n):Own w base t s A k cap (vs.take (k*s)):=by
 rcases h with⟨rfl,rfl,rfl,rfl⟩ | ⟨g,cs,rfl,hb,hbk,hn,hm,hl,rfl⟩
 ·exact Or.inl ⟨rfl,by omega,rfl,by simp⟩
 ·refine Or.inr ⟨g,cs,rfl,hb,hbk,by omega,hm,hl,?_⟩
  rw [List.take_take,Nat.min_eq_left (Nat.mul_le_mul_right s hk)]
theorem slice_to (A:Option Addr) (c k:Nat):Value.slice (if c=0 then A else A.map (·.add (0*1))) (k-0) (c-0)= .slice A k c:=by
 have h0:A.map (·.add (0*1))=A:=by
  cases A with
  | none=>rfl
  | some a=>simp [add_zero_addr]
 rw [h0,ite_self];rfl
theorem WB_32:WB=4294967296^2:=by decide
theorem Wfb.wf {xs:List Nat}(h:Wfb 4294967296 xs):Wf xs:=fun x hx=>Nat.lt_trans (h x hx) (by decide)
theorem Bk.rd0 {w:World}{g N:Nat}{t:TypeId}{l:List Nat}(h:Bk w g t (l.map W64)) (hw:Wf l) (hl:l.length=N) (hN:N≤9223372036854775807):Rd w (some ⟨g,0,none⟩) N N l:=by
 have:=h.rd hw (o:=0) (n:=N) (cap:=N) (Nat.le_refl _) (by omega) (by rw [len_maxLen];exact hN)
 rwa [List.drop_zero,List.take_of_length_le (Nat.le_of_eq hl)] at this
structure WI (ys l:List Nat) (i:Nat):Prop where
 wf:Wf l
 v:nv l=nb 4294967296 (ys.take i)
 z:∀j,i≤2*j→l.getD j 0=0
 o:i%2=1→l.getD (i/2) 0<4294967296
theorem WI.start (ys:List Nat) (N:Nat):WI ys (List.replicate N 0) 0:=by
 refine⟨fun x hx=>by rw [(List.mem_replicate.1 hx).2];decide,?_,fun j _=>?_,fun h=>by omega⟩
 ·rw [nv_nb,nb_zeros];rfl
 ·rw [List.getD_eq_getElem?_getD]
  by_cases h:j<N
  ·rw [List.getElem?_replicate_of_lt h];rfl
  ·rw [List.getElem?_eq_none (by rw [List.length_replicate];omega)];rfl
theorem WI.even {ys l:List Nat}{i:Nat}(h:WI ys l i) (he:i%2=0) (hi:i<ys.length) (hl:i/2<l.length) (hd:ys.getD i 0<4294967296):WI ys (l.set (i/2) (ys.getD i 0)) (i+1):=by
 have h0:=h.z (i/2) (by omega)
 have h1:=nv_set hl (ys.getD i 0)
 refine⟨Wf_set h.wf _ (Nat.lt_trans hd (by decide)),?_,fun j hj=>?_,fun _=>?_⟩
 ·rw [nb_take_snoc 4294967296 ys i hi,←h.v]
  rw [h0,Nat.mul_zero,Nat.add_zero,WB_32,←Nat.pow_mul,show 2*(i/2)=i by omega] at h1
  exact h1
 ·rw [getD_set_ne (by omega),h.z j (by omega)]
 ·rw [show (i+1)/2=i/2 by omega,getD_set_eq hl];exact hd
theorem WI.odd {ys l:List Nat}{i:Nat}(h:WI ys l i) (he:i%2=1) (hi:i<ys.length) (hl:i/2<l.length) (hd:ys.getD i 0<4294967296):WI ys (l.set (i/2) (l.getD (i/2) 0+ys.getD i 0*4294967296)) (i+1):=by
 have h0:=h.o he
 have h1:=nv_set hl (l.getD (i/2) 0+ys.getD i 0*4294967296)
 refine⟨Wf_set h.wf _ (by rw [WB_def];omega),?_,fun j hj=>?_,fun h=>by omega⟩
 ·have e:WB^(i/2)*4294967296=4294967296^i:=by
   rw [WB_32,←Nat.pow_mul,←Nat.pow_succ,show (2*(i/2)).succ=i by omega]
  rw [nb_take_snoc 4294967296 ys i hi,←h.v,←e]
  rw [Nat.mul_add] at h1
  have e2:WB^(i/2)*(ys.getD i 0*4294967296)=WB^(i/2)*4294967296*ys.getD i 0:=by rw [Nat.mul_comm (ys.getD i 0),Nat.mul_assoc]
  omega
 ·rw [getD_set_ne (by omega),h.z j (by omega)]
theorem WI.done {xs ys l:List Nat}{k:Nat}(h:WI ys l k) (hk:ys.length=k) (hl:l.length=(k+1)/2) (hv:nb 4294967296 ys=nb 4294967296 xs) (ht:k=0∨ys.getD (k-1) 0≠0):l.take ((k+1)/2)=wd (nb 4294967296 xs):=by
 have hv2:nv l=nb 4294967296 xs:=by rw [h.v,List.take_of_length_le (Nat.le_of_eq hk),hv]
 rw [List.take_of_length_le (by omega),←hv2]
 refine (wd_of_ge h.wf ?_).symm
 by_cases h0:k=0
 ·left;omega
 ·right
  have h1:ys.getD (k-1) 0≠0:=by omega
  rw [hv2,←hv,nb_split 4294967296 ys (k-1) (by omega),hl]
  have h2:WB^((k+1)/2-1)≤4294967296^(k-1):=by
   rw [WB_32,←Nat.pow_mul]
   exact Nat.pow_le_pow_right (by decide) (by omega)
  have h3:1≤nb 4294967296 (ys.drop (k-1)):=by
   rw [List.drop_eq_getElem_cons (by omega),nb_cons]
   rw [List.getD_eq_getElem?_getD,List.getElem?_eq_getElem (by omega),Option.getD_some] at h1
   omega
  have h4:4294967296^(k-1)*1≤4294967296^(k-1)*nb 4294967296 (ys.drop (k-1)):=Nat.mul_le_mul_left _ h3
  omega
theorem rd_op {P:Program}{n:Nat}{l:Fr}{w:World}{ty:TypeId}{pos:String}{af:Array Edge}{gd:Option (Nat×Bool)}{o:BinOp}{t t':TypeId}{x y:Operand}{u v r:Value}{dst:Option Tmp}(hx:evo l x=some u) (hy:evo l y=some v) (ho:notEq o=true) (hb:∀w,(binOp o t u v).run P w= .ok r w):RunD P n l ⟨dst,.binOp o t x y t',ty,pos,af,gd⟩ w (.value r) w:=fun a' ha=>by
 have e:((do eqGuard o t x y (a'.eval x) (a'.eval y);binOp o t (a'.eval x) (a'.eval y)):Sem Value).run P w= .ok r w:=by
  rw [ha.ev hx,ha.ev hy];exact run_op ho (hb w)
 show ((((do eqGuard o t x y (a'.eval x) (a'.eval y);binOp o t (a'.eval x) (a'.eval y)):Sem Value)>>=fun r=>pure (Next.value r)):Sem Next).run P w=_
 rw [Sem.run_bind,e];rfl
structure ShlI (xs l:List Nat) (q s k i:Nat):Prop where
 len:l.length=q+k+1
 wf:Wf l
 val:nv l=WB^q*(nv (xs.take i)*2^s)
 lo:l.getD (q+i) 0<2^s
 up:∀j,q+i<j→l.getD j 0=0
theorem ShlI.init {xs:List Nat}{q s k:Nat}:ShlI xs (List.replicate (q+k+1) 0) q s k 0:=by
 have h0:∀j,(List.replicate (q+k+1) 0).getD j 0=0:=fun j=>by
  rw [List.getD_eq_getElem?_getD,List.getElem?_replicate];split <;> rfl
 refine⟨List.length_replicate,fun x hx=>by rw [List.eq_of_mem_replicate hx];exact WB_pos,?_,?_,fun j _=>h0 j⟩
 ·rw [nv_zeros,List.take_zero];simp [nv]
 ·rw [h0];exact Nat.two_pow_pos s
theorem ShlI.step {xs l:List Nat}{q s k i:Nat}(h:ShlI xs l q s k i) (hx:Wf xs) (hi:i<k) (hk:k≤xs.length) (hs:s<64):
  ShlI xs ((l.set (q+i) (l.getD (q+i) 0||| xs.getD i 0*2^s%18446744073709551616)).set (q+i+1) (xs.getD i 0/2^(64-s))) q s k (i+1):=by
 have hxb:xs.getD i 0<18446744073709551616:=by have:=Wf_getD hx i;rwa [WB_def] at this
 have hl:=h.len
 have hp:0<2^s:=Nat.two_pow_pos s
 have hpp:2^s*2^(64-s)=18446744073709551616:=by rw [←Nat.pow_add,show s+(64-s)=64 by omega]
 have hmod:xs.getD i 0*2^s%18446744073709551616=xs.getD i 0%2^(64-s)*2^s:=by
  rw [←hpp,Nat.mul_comm (2^s),Nat.mul_mod_mul_right]
 have hor:l.getD (q+i) 0||| xs.getD i 0*2^s%18446744073709551616=xs.getD i 0%2^(64-s)*2^s+l.getD (q+i) 0:=by
  rw [hmod,Nat.or_comm,or_join h.lo]
 rw [hor]
 have hlt:xs.getD i 0%2^(64-s)*2^s+l.getD (q+i) 0<18446744073709551616:=by
  have h1:=Nat.mod_lt (xs.getD i 0) (Nat.two_pow_pos (64-s))
  have h2:(xs.getD i 0%2^(64-s)+1)*2^s≤2^(64-s)*2^s:=Nat.mul_le_mul_right _ h1
  rw [Nat.mul_comm (2^(64-s)),hpp,Nat.add_mul,Nat.one_mul] at h2
  have:=h.lo
  omega
 have hq:xs.getD i 0/2^(64-s)<2^s:=by
  refine (Nat.div_lt_iff_lt_mul (Nat.two_pow_pos _)).2 ?_
  rw [hpp];exact hxb
 have hqw:xs.getD i 0/2^(64-s)<WB:=by rw [WB_def];exact Nat.lt_of_le_of_lt (Nat.div_le_self _ _) hxb
 have hg1:q+i<l.length:=by omega
 have hg2:q+i+1<(l.set (q+i) (xs.getD i 0%2^(64-s)*2^s+l.getD (q+i) 0)).length:=by rw [List.length_set];omega
 have e1:=nv_set hg1 (xs.getD i 0%2^(64-s)*2^s+l.getD (q+i) 0)
 have e2:=nv_set hg2 (xs.getD i 0/2^(64-s))
 have e3:(l.set (q+i) (xs.getD i 0%2^(64-s)*2^s+l.getD (q+i) 0)).getD (q+i+1) 0=0:=by
  rw [List.getD_eq_getElem?_getD,List.getElem?_set_ne (by omega),←List.getD_eq_getElem?_getD];exact h.up _ (by omega)
 refine⟨by rw [List.length_set,List.length_set];exact hl,?_,?_,?_,?_⟩
 ·exact Wf_set (Wf_set h.wf _ (by rw [WB_def];exact hlt)) _ hqw
 ·rw [e3,Nat.mul_zero,Nat.add_zero] at e2
  have e4:=nv_take_snoc xs i (by omega)
  have e5:=Nat.div_add_mod (xs.getD i 0) (2^(64-s))
  have hn:=h.val
  rw [e2,e4]
  rw [hn] at e1
  generalize nv (l.set (q+i) (xs.getD i 0%2^(64-s)*2^s+l.getD (q+i) 0))=V at*
  generalize xs.getD i 0%2^(64-s)=r at*
  generalize xs.getD i 0/2^(64-s)=d at*
  generalize nv (xs.take i)=T at*
  have f1:WB^(q+i+1)=WB^(q+i)*WB:=Nat.pow_succ _ _
  have f2:WB^(q+i)=WB^q*WB^i:=Nat.pow_add _ _ _
  have f3:xs.getD i 0*2^s=d*WB+r*2^s:=by
   rw [←e5,Nat.add_mul,WB_def,←hpp,Nat.mul_right_comm,Nat.mul_comm (2^(64-s)*2^s),Nat.mul_comm (2^(64-s))]
  have f4:WB^q*((T+WB^i*xs.getD i 0)*2^s)=WB^q*(T*2^s)+WB^(q+i)*(d*WB+r*2^s):=by
   rw [Nat.add_mul,Nat.mul_add,Nat.mul_assoc (WB^i),f3,f2,Nat.mul_assoc (WB^q) (WB^i)]
  rw [f4,f1]
  rw [Nat.mul_add] at e1⊢
  rw [Nat.mul_assoc (WB^(q+i)) WB,Nat.mul_comm WB d]
  omega
 ·rw [show q+(i+1)=q+i+1 by omega,List.getD_eq_getElem?_getD,List.getElem?_set_self hg2];exact hq
 ·intro j hj
  rw [List.getD_eq_getElem?_getD,List.getElem?_set_ne (by omega),List.getElem?_set_ne (by omega),←List.getD_eq_getElem?_getD]
  exact h.up j (by omega)
theorem ShlI.done {xs l:List Nat}{q s k n:Nat}(h:ShlI xs l q s k k) (hw:Wf xs) (hk:k=(wd (nv xs)).length) (hn:n=64*q+s):nv l=nv xs*2^n:=by
 rw [h.val,nv_take_len hw hk,hn,Nat.pow_add,Nat.pow_mul,←WB_pow,Nat.mul_left_comm]
set_option maxHeartbeats 4000000 in
theorem g_nat_Shl {w:World}{A:Option Addr}{m cap n b:Nat}{xs:List Nat}(hb0:b≤w.heap.size) (hx:Rd w A m cap xs) (hm:m≤1073741824) (hn:n≤1048576):
    Calls Tryd.prog 86 #[.slice A m cap,.int .i64 ((n:Nat):Int)] w (Gv w (T2 (WR b (nv xs*2^n)) (Is (.int .i64 0)))):=by
 refine sx_enter Tryd.func86 rfl (n:=67) rfl (bq rfl) (args:= [.slice A m cap,.int .i64 ((n:Nat):Int)]) (cw_keep [(0,.slice A m cap),(1,.int .i64 ((n:Nat):Int))] ⟨rfl,rfl,trivial⟩ (sr (mv 2 rfl (ne_ (cw_seq (cw_block (sr (mv 1 rfl (wl_cmp rfl rfl rfl false (cb_lt_f (a:=n) (b:=0) rfl rfl (by omega)) (by decide) (mv 1 rfl (ne_ (cw_false rfl (cw_seq ?_)))))))))))))
 refine cw_region (mv 1 rfl (wl_cmp rfl rfl rfl false (cb_gt_f (a:=n) (b:=1048576) rfl rfl (by omega)) (by decide) (mv 1 rfl (ne_ (cw_false rfl (cw_skip (eo_block_normal (eo_then (sr (mv 1 rfl (wl_call rfl rfl (vs:= [.slice A m cap]) (by kernel_rfl) (by decide) (nat_size hx (by omega)) ?_)))))))))))
 rintro _ _ ⟨k1,hk1,hnk1,rfl,rfl⟩
 refine ret_intro ?_
 have hk1:=hk1.out
 refine mv 1 rfl (ne_ (cw_seq (cw_seq ?_)))
 by_cases hk0:k1=0
 · 
  refine cw_region (mv 1 rfl (wl_cmp rfl rfl rfl true (cb_eq_t (a:=k1) (b:=0) rfl rfl (by omega)) (by decide) (ne_ (cw_true rfl (sr (mv 2 rfl (ne_ (cw_ret (eo_thenR (eo_ret [S0,I0] rfl ⟨rfl,rfl,trivial⟩ ?_))))))))))
  have h0:nv xs=0:=len_wd_zero.1 (by omega)
  rw [h0,Nat.zero_mul]
  exact⟨_,rfl,⟨_,_,rfl,⟨none,0,0,rfl,rfl,Own.nil _ _ _ _⟩,rfl⟩,(Ext.refl w)⟩
 · 
  refine cw_region (mv 1 rfl (wl_cmp rfl rfl rfl false (cb_eq_f (a:=k1) (b:=0) rfl rfl (by omega)) (by decide) (ne_ (cw_false rfl (cw_skip (eo_then (cw_seq ?_)))))))
  have hkl:k1≤xs.length:=by have:=hx.len;omega
  have hq:n=64*(n/64)+n%64:=(Nat.div_add_mod n 64).symm
  have hs64:n%64<64:=Nat.mod_lt _ (by decide)
  have hqn:n/64≤n:=Nat.div_le_self _ _
  refine cw_region (mv 1 rfl (wl_ar rfl rfl rfl ((n/64:Nat):Int) (ai_quo (a:=n) (b:=64) rfl rfl (by omega) (by omega)) (by decide) (mv 1 rfl (wl_ar rfl rfl rfl ((n%64:Nat):Int) (au_rem (a:=n) (b:=64) rfl rfl (by omega)) (by decide) (wl_pureE rfl rfl (v:= .int .u64 (IntKind.u64.wrap ((n%64:Nat):Int))) (v':= .int .u64 ((n%64:Nat):Int)) (by decide) (by kernel_rfl) (cv_u64 (by first | omega | exact (by have:=Nat.mod_lt (xs.getD i 0*2^(n%64)) (show 0<18446744073709551616 by decide);omega))) (mv 2 rfl (ne_ (sr (mv 2 rfl (wl_ar rfl rfl rfl (((n/64)+k1:Nat):Int) (ai_add (a:=n/64) (b:=k1) rfl rfl (by omega)) (by decide) (wl_ar rfl rfl rfl ((((n/64)+k1)+1:Nat):Int) (ai_add (a:=(n/64)+k1) (b:=1) rfl rfl (by omega)) (by decide) (wl_make rfl (k:=((n/64)+k1)+1) rfl rfl rfl un_u64 info64 rfl (by decide) (by omega) (by decide) fun g2 v3 hg4 hb5 e6=>?_))))))))))))
  rw [replicate_W64] at hb5
  have ge7:w.heap.size≤g2:=by rw [←hg4];exact (Ext.refl w).size
  have ne9:0<cap→∀a,A=some a→a.block≠g2:=fun hc a ha=>by have:=(hx).rv.blk a ha hc;omega
  clear hg4
  have hw1:=(Ext.refl w).trans e6
  refine mv 1 rfl (ne_ (cw_seq (sr (mv 2 rfl (ne_ (cw_block ?_))))))
  refine cw_loop (T:=World×Nat×List Nat)
   (fun⟨wr,i,l⟩=> [(0,.slice A m cap),(6,.int .i64 ((k1:Nat):Int)),(7,.int .i64 ((n/64:Nat):Int)),(8,.int .u64 ((n%64:Nat):Int)),(9,.slice (some ⟨g2,0,none⟩) (((n/64)+k1)+1) (((n/64)+k1)+1)),(31,.int .i64 ((k1:Nat):Int)),(32,.int .i64 ((i:Nat):Int))])
   (fun⟨wr,i,l⟩=>wr)
   (fun⟨wr,i,l⟩=>(Ext w wr)∧(i≤k1)∧(Bk wr g2 50 (l.map W64))∧(ShlI xs l (n/64) (n%64) k1 i)∧(Rd wr A m cap xs))
   (fun⟨wr,i,l⟩=>k1-i)
   (⟨v3,0,_⟩:World×Nat×List Nat) ⟨hw1,(Nat.zero_le _),hb5,ShlI.init,(hx.ext e6)⟩ rfl ⟨rfl,rfl,rfl,rfl,rfl,rfl,rfl,trivial⟩ ?_
  rintro⟨wr,i,l⟩ ⟨hw1,hi,hb,hI,rl0⟩
  refine cw_re [(0,.slice A m cap),(6,.int .i64 ((k1:Nat):Int)),(7,.int .i64 ((n/64:Nat):Int)),(8,.int .u64 ((n%64:Nat):Int)),(9,.slice (some ⟨g2,0,none⟩) (((n/64)+k1)+1) (((n/64)+k1)+1)),(31,.int .i64 ((k1:Nat):Int)),(32,.int .i64 ((i:Nat):Int))] wr rfl ⟨rfl,rfl,rfl,rfl,rfl,rfl,rfl,trivial⟩ (cw_seq ?_)
  by_cases hik:i<k1
  · 
   have hxb:xs.getD i 0≤18446744073709551615:=by have:=Wf_getD hx.wf i;rw [WB_def] at this;omega
   have hlb:l.getD (n/64+i) 0≤18446744073709551615:=by have:=Wf_getD hI.wf (n/64+i);rw [WB_def] at this;omega
   have hlen:=hI.len
   refine cw_region (wl_cmp rfl rfl rfl true (cb_lt_t (a:=i) (b:=k1) rfl rfl (by omega)) (by decide) (ne_ (cw_seq (cw_true rfl (cw_skip (eo_then (cw_seq (cw_block (sr (mv 2 rfl (ne_ (cw_seq (cw_keep [(0,.slice A m cap),(6,.int .i64 ((k1:Nat):Int)),(7,.int .i64 ((n/64:Nat):Int)),(8,.int .u64 ((n%64:Nat):Int)),(9,.slice (some ⟨g2,0,none⟩) (((n/64)+k1)+1) (((n/64)+k1)+1)),(31,.int .i64 ((k1:Nat):Int)),(32,.int .i64 ((i:Nat):Int)),(33,.bool true),(34,.int .i64 ((i:Nat):Int)),(10,.int .i64 ((i:Nat):Int))] ⟨rfl,rfl,rfl,rfl,rfl,rfl,rfl,rfl,rfl,rfl,trivial⟩ ?_)))))))))))))
   obtain⟨v10,hv,e11⟩:∃v,v=wr.drew∧Ext wr v:=⟨_,rfl,(Ext.refl _).drew⟩
   have hw2:=hw1.trans e11
   obtain⟨p12,hp12,hc12,hv12⟩:=((rl0.ext e11)).at (i:=i) (by omega)
   have hb14:=(hb.ext e11)
   obtain⟨v13,hr18,hb15,u16,hs17⟩:=run_store1v (P:=Tryd.prog) (v:= .int .u64 (((l.getD ((n/64)+i) 0)||| ((xs.getD i 0)*2^(n%64)%18446744073709551616):Nat):Int)) (off:=(n/64)+i) sz_u64 rfl hb14 (len_map (by rw [hI.len];omega)) rfl ((l.set ((n/64)+i) ((l.getD ((n/64)+i) 0)||| ((xs.getD i 0)*2^(n%64)%18446744073709551616))).map W64) (map_W64_set _ _ _)
   have hw3:=u16.ext hw2 ge7
   refine cw_det mix (w:=v10) [.slice (some ⟨g2,0,none⟩) (((n/64)+k1)+1) (((n/64)+k1)+1),.int .i64 ((n/64:Nat):Int),.int .i64 ((i:Nat):Int),.int .i64 (((n/64)+i:Nat):Int),.pointer (some (⟨g2,(n/64)+i,none⟩)),.int .u64 ((l.getD ((n/64)+i) 0:Nat):Int),.slice A m cap,.int .i64 ((i:Nat):Int),.pointer (some p12),.int .u64 ((xs.getD i 0:Nat):Int),.int .u64 ((n%64:Nat):Int),.int .u64 (((xs.getD i 0)*2^(n%64)%18446744073709551616:Nat):Int),.int .u64 (((l.getD ((n/64)+i) 0)||| ((xs.getD i 0)*2^(n%64)%18446744073709551616):Nat):Int),.pointer (some (⟨g2,(n/64)+i,none⟩)),undef] [v10,v13] [14] [[],[],[],[1,2],[0,3],[4],[],[],[6,7],[8],[],[9,10],[5,11],[0,3],[12,13]] [[],[],[],[1,2],[0,1,2,3],[0,1,2,3,4],[],[],[6,7],[6,7,8],[],[6,7,8,9,10],[0,1,2,3,4,5,6,7,8,9,10,11],[0,1,2,3,4,5,6,7,8,9,10,11,12],[0,1,2,3,4,5,6,7,8,9,10,11,12,13]] [(0,0),(1,0),(2,0),(3,0),(4,0),(5,0),(6,0),(7,0),(8,0),(9,0),(10,0),(11,0),(12,0),(13,0),(14,0)] rfl hv ?_ ?_
   · 
    refine dobs_val _ rfl rfl rfl rfl rfl (rd_move rfl) (dobs_val _ rfl rfl rfl rfl rfl (rd_move rfl) (dobs_val _ rfl rfl rfl rfl rfl (rd_move rfl) (dobs_val _ rfl rfl rfl rfl rfl (rd_ar rfl rfl (((n/64)+i:Nat):Int) (ai_add (a:=n/64) (b:=i) rfl rfl (by omega))) (dobs_val _ rfl rfl rfl rfl rfl (rd_idx rfl rfl un_u64 sz_u64 ((n/64)+i) rfl (by omega) ⟨g2,(n/64)+i,none⟩ (arr_at _ _)) (dobs_val _ rfl rfl rfl rfl rfl (rd_load rfl (load_word ag_u64 (hb.ext e11) (by rw [hI.len];omega))) (dobs_val _ rfl rfl rfl rfl rfl (rd_move rfl) (dobs_val _ rfl rfl rfl rfl rfl (rd_move rfl) (dobs_val _ rfl rfl rfl rfl rfl (rd_idx rfl rfl un_u64 sz_u64 i rfl (by omega) p12 hp12) (dobs_val _ rfl rfl rfl rfl rfl (rd_load rfl (load_cell1 ag_u64 hc12)) (dobs_val _ rfl rfl rfl rfl rfl (rd_move rfl) (dobs_val _ rfl rfl rfl rfl rfl (rd_op rfl rfl (r:= .int .u64 (((xs.getD i 0)*2^(n%64)%18446744073709551616:Nat):Int)) rfl (fun w=>u64_shl (x:=xs.getD i 0) (s:=n%64) (by omega) _ _ w)) (dobs_val _ rfl rfl rfl rfl rfl (rd_op rfl rfl (r:= .int .u64 (((l.getD ((n/64)+i) 0)||| ((xs.getD i 0)*2^(n%64)%18446744073709551616):Nat):Int)) rfl (fun w=>u64_or (x:=l.getD ((n/64)+i) 0) (y:=(xs.getD i 0)*2^(n%64)%18446744073709551616) hlb (by have:=Nat.mod_lt (xs.getD i 0*2^(n%64)) (show 0<18446744073709551616 by decide);omega) _ _ w)) (dobs_val _ rfl rfl rfl rfl rfl (rd_idx rfl rfl un_u64 sz_u64 ((n/64)+i) rfl (by omega) ⟨g2,(n/64)+i,none⟩ (arr_at _ _)) ?_)))))))))))))
    refine dobs_sto _ rfl rfl rfl rfl rfl (rd_store rfl rfl hr18) ?_
    exact dobs_nil
   clear hv
   refine eo_keep [(0,.slice A m cap),(6,.int .i64 ((k1:Nat):Int)),(7,.int .i64 ((n/64:Nat):Int)),(8,.int .u64 ((n%64:Nat):Int)),(9,.slice (some ⟨g2,0,none⟩) (((n/64)+k1)+1) (((n/64)+k1)+1)),(31,.int .i64 ((k1:Nat):Int)),(32,.int .i64 ((i:Nat):Int)),(33,.bool true),(34,.int .i64 ((i:Nat):Int)),(10,.int .i64 ((i:Nat):Int)),(35,.slice (some ⟨g2,0,none⟩) (((n/64)+k1)+1) (((n/64)+k1)+1)),(36,.int .i64 ((n/64:Nat):Int)),(37,.int .i64 ((i:Nat):Int)),(38,.int .i64 (((n/64)+i:Nat):Int)),(39,.pointer (some (⟨g2,(n/64)+i,none⟩))),(40,.int .u64 ((l.getD ((n/64)+i) 0:Nat):Int)),(41,.slice A m cap),(42,.int .i64 ((i:Nat):Int)),(43,.pointer (some p12)),(44,.int .u64 ((xs.getD i 0:Nat):Int)),(45,.int .u64 ((n%64:Nat):Int)),(46,.int .u64 (((xs.getD i 0)*2^(n%64)%18446744073709551616:Nat):Int)),(47,.int .u64 (((l.getD ((n/64)+i) 0)||| ((xs.getD i 0)*2^(n%64)%18446744073709551616):Nat):Int)),(48,.pointer (some (⟨g2,(n/64)+i,none⟩)))] ⟨rfl,rfl,rfl,rfl,rfl,rfl,rfl,rfl,rfl,rfl,rfl,rfl,rfl,rfl,rfl,rfl,rfl,rfl,rfl,rfl,rfl,rfl,rfl,rfl,trivial⟩ (eo_then (cw_region (mv 3 rfl (wl_ar rfl rfl rfl (((n/64)+i:Nat):Int) (ai_add (a:=n/64) (b:=i) rfl rfl (by omega)) (by decide) (wl_ar rfl rfl rfl ((((n/64)+i)+1:Nat):Int) (ai_add (a:=(n/64)+i) (b:=1) rfl rfl (by omega)) (by decide) (mv 2 rfl ?_))))))
   obtain⟨p19,hp19,hc19,hv19⟩:=((Rd.updL (rl0.ext e11) u16 ne9)).at (i:=i) (by omega)
   refine wl_idx rfl rfl rfl un_u64 sz_u64 i rfl (by omega) p19 hp19 (by decide) (wl_load rfl rfl (load_cell1 ag_u64 hc19) (by decide) (mv 1 rfl (wl_ar rfl rfl rfl ((64-(n%64):Nat):Int) (au_sub (a:=64) (b:=n%64) rfl rfl (by omega) (by omega)) (by decide) (wl_op rfl rfl rfl (r:= .int .u64 (((xs.getD i 0)/2^(64-(n%64)):Nat):Int)) rfl (fun w=>u64_shr (x:=xs.getD i 0) (s:=64-(n%64)) (by omega) _ _ w) (by decide) (wl_idx rfl rfl rfl un_u64 sz_u64 (((n/64)+i)+1) rfl (by omega) ⟨g2,((n/64)+i)+1,none⟩ (arr_at _ _) (by decide) (wl_stored1 rfl rfl rfl sz_u64 rfl hb15 (len_map (by rw [(len_set (l:=l) (hI.len))];omega)) rfl (((l.set ((n/64)+i) ((l.getD ((n/64)+i) 0)||| ((xs.getD i 0)*2^(n%64)%18446744073709551616))).set (((n/64)+i)+1) ((xs.getD i 0)/2^(64-(n%64)))).map W64) (map_W64_set _ _ _) fun v20 hb22 u23 hs24=>?_))))))
   have hw4:=u23.ext hw3 ge7
   refine wl_nil (eo_block_normal (eo_then (cw_region (wl_ar rfl rfl rfl ((i+1:Nat):Int) (ai_add (a:=i) (b:=1) rfl rfl (by omega)) (by decide) (mv 1 rfl (wl_nil (eo_round (⟨v20,i+1,_⟩:World×Nat×List Nat) ⟨hw4,(by omega),hb22,(hI.step hx.wf hik hkl hs64),(Rd.updL (Rd.updL (rl0.ext e11) u16 ne9) u23 ne9)⟩ (show k1-(i+1)<k1-i by omega) rfl ⟨rfl,rfl,rfl,rfl,rfl,rfl,rfl,trivial⟩)))))))
  · 
   have hie:i=k1:=by omega
   rw [hie] at hI
   have hnv:=hI.done hx.wf hk1 hq
   have hlen:=hI.len
   refine cw_region (wl_cmp rfl rfl rfl false (cb_lt_f (a:=i) (b:=k1) rfl rfl (by omega)) (by decide) (ne_ (cw_seq (cw_false rfl (cw_exit (eo_thenX (eo_loopX (eo_block_here (eo_then (sr (mv 2 rfl (wl_call rfl rfl (vs:= [.slice (some ⟨g2,0,none⟩) (((n/64)+k1)+1) (((n/64)+k1)+1)]) (by kernel_rfl) (by decide) (nat_size ((hb).rd0 hI.wf hI.len (by omega)) (by omega)) ?_))))))))))))
   rintro _ _ ⟨k25,hk25,hnk25,rfl,rfl⟩
   refine ret_intro ?_
   have hk25:=hk25.out
   have hle8:k25≤n/64+k1+1:=by rw [hk25];exact Nat.le_trans (len_wd_nv hI.wf) (Nat.le_of_eq hI.len)
   refine wl_slice rfl rfl un_u64 sz_u64 (lo:=0) (hi:=k25) rfl rfl (by omega) (by omega) (v:= .slice (some ⟨g2,0,none⟩) k25 (((n/64)+k1)+1)) (slice_to _ _ _) (by decide) (mv 2 rfl (ne_ (cw_ret (eo_ret [.slice (some ⟨g2,0,none⟩) k25 (((n/64)+k1)+1),I0] rfl ⟨rfl,rfl,trivial⟩ ?_))))
   have hwd:=wd_take_len hI.wf hk25
   have ho:Own wr b 50 1 (some ⟨g2,0,none⟩) k25 (n/64+k1+1) ((wd (nv l)).map W64):=Own.mk_ (Nat.le_trans hb0 ge7) hb (by omega) (by rw [len_maxLen];omega) (by rw [List.length_map,Nat.mul_one];exact hI.len) (by rw [hwd,Nat.mul_one,List.map_take])
   rw [←hnv]
   exact⟨_,rfl,⟨_,_,rfl,⟨_,_,_,rfl,hk25,ho⟩,rfl⟩,hw1⟩
end Go.Proofs.YtipklngcpmkfhaaDoor

namespace Go.Proofs.YtipklngcpmkfhaaDoor
open Go.RowKit
open Ieee
theorem app_DivMod {w:World}{b:Nat}(hb:b≤w.heap.size){A B:Option Addr}{n c n' c' m m':Nat}(hx:Wi w A n c m) (hl:n≤274877906944) (hy:Wi w B n' c' m') (hl':n'≤274877906944) (h0:m'≠0):Calls Tryd.prog 84 #[.slice A n c,.slice B n' c'] w (Gv w (T3 (WR b (m/m')) (WR b (m%m')) (Is (.int .i64 0)))):=by
 obtain⟨xs,h1,rfl⟩:=hx
 obtain⟨ys,h2,rfl⟩:=hy
 refine (divnat_DivMod h1 hl h2 hl' h0).mono fun e w' h=>?_
 obtain⟨A,n,cap,B,m,cap',rfl,h3,_,h4,h5,_,h6,h7⟩:=h
 exact⟨_,rfl,⟨_,_,_,rfl,⟨A,n,cap,rfl,h3.out,h4.mono hb⟩,⟨B,m,cap',rfl,h5.out,h6.mono hb⟩,rfl⟩,h7⟩
theorem app_BitLen {w:World}{A:Option Addr}{n c m:Nat}(hx:Wi w A n c m) (hl:n≤1099511627775):Calls Tryd.prog 43 #[.slice A n c] w (Gv w (Is (.int .i64 ((blen m:Nat):Int)))):=by
 obtain⟨xs,h1,rfl⟩:=hx
 refine (nat_BitLen h1 hl).mono fun e w' h=>?_
 obtain⟨k,h2,rfl,h3⟩:=h
 exact⟨_,rfl,(show Value.int .i64 (k:Int)=_ by rw [h2.out]),h3⟩
theorem app_Shl {w:World}{A:Option Addr}{m c n b M:Nat}(hb0:b≤w.heap.size) (hx:Wi w A m c M) (hm:m≤1073741824) (hn:n≤1048576):Calls Tryd.prog 86 #[.slice A m c,.int .i64 ((n:Nat):Int)] w (Gv w (T2 (WR b (M*2^n)) (Is (.int .i64 0)))):=by
 obtain⟨xs,h1,rfl⟩:=hx
 exact g_nat_Shl hb0 h1 hm hn
def sgB (ng:Bool) (b:Nat):Nat:=if ng=true∧b≠0 then b+9223372036854775808 else b
theorem xor_sign {b:Nat}(h:b<9223372036854775808):b^^^9223372036854775808=b+9223372036854775808:=by
 have e:(9223372036854775808:Nat)=2^63:=rfl
 rw [e] at h⊢
 refine Nat.eq_of_testBit_eq fun i=>?_
 rw [Nat.testBit_xor,Nat.testBit_two_pow,Nat.add_comm]
 rcases Nat.lt_trichotomy i 63 with h1 | h1 | h1
 ·rw [Nat.testBit_two_pow_add_gt h1]
  have:decide (63=i)=false:=by simp;omega
  rw [this,Bool.xor_false]
 ·subst h1
  rw [Nat.testBit_two_pow_add_eq,Nat.testBit_lt_two_pow h];rfl
 ·have h2:(2:Nat)^64≤2^i:=Nat.pow_le_pow_right (by decide) h1
  rw [Nat.testBit_lt_two_pow (Nat.lt_of_lt_of_le (show 2^63+b<2^64 by omega) h2),Nat.testBit_lt_two_pow (Nat.lt_of_lt_of_le (show b<2^64 by omega) h2)]
  have:decide (63=i)=false:=by simp;omega
  rw [this];rfl
theorem ne0_t {b:Nat}(h:b≤9218868437227405312) (h0:b≠0):(FloatKind.f64.format.order b 0 != some .eq)=true:=by
 show (double.order b 0 != some .eq)=true
 by_cases hf:fin b
 ·rw [order_zero hf]
  unfold fin mg at hf
  unfold mg
  rw [if_neg (by omega)]
  split <;> rfl
 ·have:=order_zero_not hf
  unfold bne
  rw [this];rfl
theorem ne0_f:(FloatKind.f64.format.order 0 0 != some .eq)=false:=by decide
theorem len_shl {m k n:Nat}(h:(wd m).length≤n) (hk:k≤4096):(wd (m*2^k)).length≤n+65:=by
 refine len_wd_le ?_
 have h1:=lt_pow_len m
 have h2:m<WB^n:=Nat.lt_of_lt_of_le h1 (Nat.pow_le_pow_right WB_pos h)
 have h4:(2:Nat)^k<WB^65:=by
  have e:WB^65=2^(64*65):=by rw [WB_pow,←Nat.pow_mul]
  rw [e]
  generalize hz:64*65=z
  exact Nat.pow_lt_pow_right (by decide) (by omega)
 rw [Nat.pow_add]
 exact Nat.mul_lt_mul'' h2 h4
theorem blen_bd2 {m n:Nat}(h:(wd m).length≤n):blen m≤64*n:=by
 refine blen_le ?_
 have h1:=lt_pow_len m
 rw [WB_pow,←Nat.pow_mul] at h1
 exact Nat.lt_of_lt_of_le h1 (Nat.pow_le_pow_right (by decide) (Nat.mul_le_mul_left _ h))
theorem cv_neg {k:Nat}(h:k≤9223372036854775807):Value.int .i64 (IntKind.i64.wrap (0- -((k:Nat):Int)))= .int .i64 (k:Int):=by
 rw [IntWalk.i64_in _ ⟨by omega,by omega⟩];congr 1;omega
theorem u64_shl52 {x:Nat}(h:x≤4095) (P:Program) (t:TypeId) (w:World):(binOp .shl t (.int .u64 (x:Int)) (.int .u64 52)).run P w= .ok (.int .u64 ((x*4503599627370496:Nat):Int)) w:=by
 have e:=u64_shl (x:=x) (s:=52) (by decide) P t w
 have e2:x*2^52%18446744073709551616=x*4503599627370496:=by
  rw [show (2:Nat)^52=4503599627370496 from rfl];omega
 rw [e2] at e;exact e
theorem u64_mask {x d:Nat}(hx:x≤18446744073709551615) (hd:d≤63) (P:Program) (t:TypeId) (w:World):(binOp .and t (.int .u64 (x:Int)) (.int .u64 ((2^d-1:Nat):Int))).run P w= .ok (.int .u64 ((x%2^d:Nat):Int)) w:=by
 have h1:2^d≤2^63:=Nat.pow_le_pow_right (by decide) hd
 have e2:(binOp .and t (.int .u64 (x:Int)) (.int .u64 ((2^d-1:Nat):Int))).run P w= .ok (.int .u64 (bits BinOp.and IntKind.u64 (x:Int) ((2^d-1:Nat):Int))) w:=rfl
 rw [e2]
 have e3:bits BinOp.and IntKind.u64 (x:Int) ((2^d-1:Nat):Int)=((x&&& (2^d-1):Nat):Int):=by
  have e:IntKind.u64.wrap ((BitVec.ofInt 64 (x:Int)&&& BitVec.ofInt 64 ((2^d-1:Nat):Int)).toNat:Int)=((x&&& (2^d-1):Nat):Int):=by
   rw [BitVec.toNat_and,ofInt_64 hx,ofInt_64 (by omega),wrap_u64_nat,Nat.mod_eq_of_lt (Nat.lt_of_le_of_lt Nat.and_le_left (by omega))]
  exact e
 rw [e3,Nat.and_two_pow_sub_one_eq_mod]
theorem u64_shl1A {s:Nat}(hs:s≤63) (P:Program) (t:TypeId) (w:World):(binOp .shl t (.int .u64 1) (.int .u64 (s:Int))).run P w= .ok (.int .u64 ((2^s:Nat):Int)) w:=by
 have e:=u64_shl (x:=1) (s:=s) (by omega) P t w
 have h1:2^s≤2^63:=Nat.pow_le_pow_right (by decide) hs
 rw [Nat.one_mul,Nat.mod_eq_of_lt (by omega)] at e;exact e
theorem wl_mmA {P:Program}{Q:Exit→Act→World→Prop}{n:Nat}{l:Fr}{w:World}{ops:Array Oper}{rest:List Oper}{d:Nat}{ty:TypeId}{pos:String}{af:Array Edge}{gd:Option (Nat×Bool)}{x y:Operand}{ts:Array TypeId}{k:IntKind}{a b:Int}(hw:guardB ops l gd=some true)
  (hx:evo l x=some (.int k a)) (hy:evo l y=some (.int k b)) (c:Int) (hc:max a b=c) (hn:d<n) (h:wl P ops Q n rest ((d,.int k c)::l) w):wl P ops Q n (⟨some d,.call {callee:= .builtin .max,args:= #[x,y],argTypes:=ts},ty,pos,af,gd⟩::rest) l w:=by
 refine wl_val hw hn (fun a' ha=>?_) h
 have e:(if b>a then b else a)=c:=by rw [←hc];split <;> omega
 unfold execOp
 simp only [resolve,invoke,builtin,Sem.run_bind,Sem.run_pure,Result.andThen_ok,List.map_toArray,List.map_cons,List.map_nil,ha.ev hx,ha.ev hy,Builtin.max_,List.foldlM,Builtin.max2,e]
theorem wl_miA {P:Program}{Q:Exit→Act→World→Prop}{n:Nat}{l:Fr}{w:World}{ops:Array Oper}{rest:List Oper}{d:Nat}{ty:TypeId}{pos:String}{af:Array Edge}{gd:Option (Nat×Bool)}{x y:Operand}{ts:Array TypeId}{k:IntKind}{a b:Int}(hw:guardB ops l gd=some true)
  (hx:evo l x=some (.int k a)) (hy:evo l y=some (.int k b)) (c:Int) (hc:min a b=c) (hn:d<n) (h:wl P ops Q n rest ((d,.int k c)::l) w):wl P ops Q n (⟨some d,.call {callee:= .builtin .min,args:= #[x,y],argTypes:=ts},ty,pos,af,gd⟩::rest) l w:=by
 refine wl_val hw hn (fun a' ha=>?_) h
 have e:(if b<a then b else a)=c:=by rw [←hc];split <;> omega
 unfold execOp
 simp only [resolve,invoke,builtin,Sem.run_bind,Sem.run_pure,Result.andThen_ok,List.map_toArray,List.map_cons,List.map_nil,ha.ev hx,ha.ev hy,Builtin.min_,List.foldlM,Builtin.min2,e]
theorem own_word {w:World}{b n c q:Nat}{A:Option Addr}(h:Own w b 50 1 A n c ((wd q).map W64)) (hn:n=(wd q).length) (h1:(wd q).length=1):∃p,A.map (·.add (0*1))=some p∧w.cell? p=some (.int .u64 ((q:Nat):Int)):=by
 obtain⟨p,hp,hc,_⟩:=(h.rd (Wf_wd _)).at (i:=0) (by omega)
 refine⟨p,hp,?_⟩
 have e:(wd q).getD 0 0=q:=by
  have h2:=nv_wd q
  rcases hw:wd q with _ | ⟨x,r⟩
  ·rw [hw] at h1;simp at h1
  ·rw [hw] at h1 h2
   have:r= []:=List.length_eq_zero_iff.1 (by simpa using h1)
   subst this
   rw [←h2];simp [nv]
 rw [e] at hc;exact hc
theorem len_w1 {q:Nat}(h0:q≠0) (h:q≤18446744073709551615):(wd q).length=1:=by
 have h1:(wd q).length≤1:=len_wd_le (by rw [WB_def,Nat.pow_one];omega)
 have h2:(wd q).length≠0:=fun e=>h0 (len_wd_zero.1 e)
 omega
theorem lt56 {q:Nat}(h:blen q=55∨blen q=56):q<72057594037927936:=by
 have h1:(2:Nat)^blen q≤2^56:=Nat.pow_le_pow_right (by decide) (by omega)
 exact Nat.lt_of_lt_of_le (lt_blen q) h1
theorem min_castA (a b:Nat):min (a:Int) (b:Int)=((min a b:Nat):Int):=by omega
theorem near_up {X D k p d z:Nat}(h:k+p=z+d):X*2^k*2^p*D=X*2^z*(D*2^d):=by
 have e:(2:Nat)^k*2^p=2^z*2^d:=by rw [←Nat.pow_add,←Nat.pow_add,h]
 rw [Nat.mul_assoc X,e,Nat.mul_comm D,←Nat.mul_assoc X,Nat.mul_assoc (X*2^z)]
theorem near_dn {X D k p d z:Nat}(h:p=z+k+d):X*2^p*D=X*2^z*(D*2^k*2^d):=by
 rw [h,Nat.pow_add,Nat.pow_add,Nat.mul_assoc D,←Nat.mul_assoc X,←Nat.mul_assoc X,Nat.mul_assoc (X*2^z),Nat.mul_assoc (X*2^z),Nat.mul_comm (2^k*2^d) D]
theorem near_m53 {q d:Nat}(h:blen q≤d+53) (h2:2≤d):q/2^d<9007199254740992:=by
 refine (Nat.div_lt_iff_lt_mul (Nat.two_pow_pos d)).2 (Nat.lt_of_lt_of_le (lt_blen q) ?_)
 rw [show (9007199254740992:Nat)=2^53 from rfl,←Nat.pow_add]
 exact Nat.pow_le_pow_right (by decide) (by omega)
theorem near_z {z D:Nat}(hD:0<D):nearB (0*2^z) D=0:=by
 unfold nearB
 rw [Nat.zero_mul,near_tiny hD (by omega)]
 rfl
theorem near_low {X D:Nat}(hX:X≠0) (hD:0<D) (h:((blen X:Nat):Int)-((blen D:Nat):Int)< -1080):nearB (X*2^e74) D=0:=by
 have h1:=lt_blen X
 have h2:=blen_le_self (n:=D) (by omega)
 have h3:X*2^e74*2<D:=by
  refine Nat.lt_of_lt_of_le ?_ h2
  have e:X*2^e74*2=X*2^(e74+1):=by rw [Nat.mul_assoc,←Nat.pow_succ]
  rw [e]
  refine Nat.lt_of_lt_of_le ((Nat.mul_lt_mul_right (Nat.two_pow_pos (e74+1))).2 h1) ?_
  rw [←Nat.pow_add]
  have h74:=e74_eq
  exact Nat.pow_le_pow_right (by decide) (by omega)
 unfold nearB
 rw [near_tiny hD (by omega)]
 rfl
theorem near_high {X D:Nat}(hX:X≠0) (hD:0<D) (h:1025<((blen X:Nat):Int)-((blen D:Nat):Int)):nearB (X*2^e74) D=9218868437227405312:=by
 have h1:=blen_le_self hX
 have h2:=lt_blen D
 have h3:D*(2^e98*2)≤X*2^e74:=by
  have e1:D*(2^e98*2)≤2^(blen D+1025)*2^e74:=by
   have e0:e98.succ=1025+e74:=by rw [e98_eq,e74_eq]
   rw [←Nat.pow_succ,e0,←Nat.pow_add,Nat.add_assoc,Nat.pow_add 2 (blen D)]
   exact Nat.mul_le_mul_right _ (Nat.le_of_lt h2)
  refine Nat.le_trans e1 (Nat.mul_le_mul_right _ (Nat.le_trans ?_ h1))
  exact Nat.pow_le_pow_right (by decide) (by omega)
 have:=near_huge hD h3
 unfold nearB
 omega
theorem near_drop {X D N E d p q:Nat}(hD:0<D) (hE:0<E) (hcr:N*2^p*D=X*(E*2^d)) (hp:p=0) (hq:N/E=q) (hq56:q<72057594037927936) (hd:60<d):nearB X D=0:=by
 subst hp
 rw [Nat.pow_zero,Nat.mul_one] at hcr
 have hN:N<E*72057594037927936:=by rw [Nat.mul_comm];exact (Nat.div_lt_iff_lt_mul hE).1 (by rw [hq];exact hq56)
 have h61:(2:Nat)^61≤2^d:=Nat.pow_le_pow_right (by decide) hd
 have h1:2*X<D:=by
  refine Nat.lt_of_mul_lt_mul_left (a:=E*2^d) ?_
  have e1:E*2^d*(2*X)=2*(N*D):=by rw [hcr,Nat.mul_left_comm,Nat.mul_comm X]
  rw [e1]
  have e2:N*D<E*72057594037927936*D:=(Nat.mul_lt_mul_right hD).2 hN
  have e3:E*72057594037927936*D*32=E*2^61*D:=by rw [show (2:Nat)^61=72057594037927936*32 from rfl,←Nat.mul_assoc E,Nat.mul_right_comm]
  have e4:E*2^61*D≤E*2^d*D:=Nat.mul_le_mul_right _ (Nat.mul_le_mul_left _ h61)
  omega
 unfold nearB
 rw [near_tiny hD h1]
 rfl
set_option maxHeartbeats 4000000 in
theorem g_shifted {w:World}{b k:Nat}(hb:b≤w.heap.size) (hk:k≤4096){A:Option Addr}{n c X:Nat}(hX:Wi w A n c X) (hXn:n≤67108864):
    Calls Tryd.prog 63 #[.slice A n c,.int .i64 ((k:Nat):Int)] w (Gv w (WR b (X*2^k))):=by
 refine sx_enter Tryd.func63 rfl (n:=14) rfl (bq rfl) (args:= [.slice A n c,.int .i64 ((k:Nat):Int)]) (cw_keep [(0,.slice A n c),(1,.int .i64 ((k:Nat):Int))] ⟨rfl,rfl,trivial⟩ (sr (mv 1 rfl (ne_ (sr (mv 2 rfl (cl (vs:= [.slice A n c,.int .i64 ((k:Nat):Int)]) (Ext.refl w) (app_Shl (b:=b) (Nat.le_trans hb (Ext.refl w).size) hX (lx_ hXn rfl) (by omega)) rfl (by kernel_rfl) fun xr3 v1 r3 e2 hw1=>?_)))))))
 obtain⟨_,_,rfl,⟨A5,n5,c5,rfl,j5,o5⟩,rfl⟩:=r3
 refine mv 1 rfl (pu (v:= .slice A5 n5 c5) rfl (by kernel_rfl) (pu (v:= .int .i64 0) rfl (by kernel_rfl) (mv 2 rfl (ne_ (sr (mv 2 rfl (ne_ (cw_ret (eo_ret [.slice A5 n5 c5] rfl ⟨rfl,trivial⟩ ?_)))))))))
 exact⟨_,rfl,⟨_,_,_,rfl,j5,o5⟩,hw1⟩
set_option maxHeartbeats 4000000 in
theorem g_signed {w:World}{ng:Bool}{x:Nat}(hx:x≤9218868437227405312):
    Calls Tryd.prog 59 #[.bool ng,.float .f64 x] w (Gv w (Is (.float .f64 (sgB ng x)))):=by
 refine sx_enter Tryd.func59 rfl (n:=13) rfl (bq rfl) (args:= [.bool ng,.float .f64 x]) (cw_keep [(0,.bool ng),(1,.float .f64 x)] ⟨rfl,rfl,trivial⟩ (sr (mv 1 rfl (ne_ (cw_seq (cw_seq ?_))))))
 cases ng
 · 
  refine cw_region (mv 4 rfl (pu (v:= .bool false) rfl (by kernel_rfl) (ne_ (cw_false rfl (cw_skip (eo_then (sr (mv 2 rfl (ne_ (cw_ret (eo_ret [.float .f64 x] rfl ⟨rfl,trivial⟩ ?_)))))))))))
  exact⟨_,rfl,(show Value.float .f64 x=_ by unfold sgB;rw [if_neg (by simp)]),(Ext.refl w)⟩
 · 
  by_cases h0:x=0
  · 
   subst h0
   refine cw_region (mv 3 rfl (wl_pureE rfl rfl (v:= .bool (FloatKind.f64.format.order 0 0 != some .eq)) (v':= .bool false) (by decide) (by kernel_rfl) (congrArg Value.bool ne0_f) (pu (v:= .bool false) rfl (by kernel_rfl) (ne_ (cw_false rfl (cw_skip (eo_then (sr (mv 2 rfl (ne_ (cw_ret (eo_ret [.float .f64 0] rfl ⟨rfl,trivial⟩ ?_))))))))))))
   exact⟨_,rfl,(show Value.float .f64 0=_ by unfold sgB;rw [if_neg (by simp)]),(Ext.refl w)⟩
  · 
   refine cw_region (mv 3 rfl (wl_pureE rfl rfl (v:= .bool (FloatKind.f64.format.order x 0 != some .eq)) (v':= .bool true) (by decide) (by kernel_rfl) (congrArg Value.bool (ne0_t hx h0)) (pu (v:= .bool true) rfl (by kernel_rfl) (ne_ (cw_true rfl (sr (mv 1 rfl (pu (v:= .float .f64 (x^^^9223372036854775808)) rfl (by kernel_rfl) (mv 1 rfl (ne_ (cw_ret (eo_thenR (eo_ret [.float .f64 (x^^^9223372036854775808)] rfl ⟨rfl,trivial⟩ ?_)))))))))))))
   exact⟨_,rfl,(show Value.float .f64 (x^^^9223372036854775808)=_ by unfold sgB;rw [if_pos ⟨rfl,h0⟩,xor_sign (by omega)]),(Ext.refl w)⟩
set_option maxHeartbeats 8000000 in
theorem g_nearest {w:World}{A:Option Addr}{n c X:Nat}(hX:Wi w A n c X) (hXn:n≤67108864){B:Option Addr}{n' c' D:Nat}(hD:Wi w B n' c' D) (hDn:n'≤67108864) (hD0:0<D):
    Calls Tryd.prog 60 #[.slice A n c,.slice B n' c'] w (Gv w (Is (.float .f64 (nearB (X*2^e74) D)))):=by
 refine sx_enter Tryd.func60 rfl (n:=109) rfl (bq rfl) (args:= [.slice A n c,.slice B n' c']) (cw_keep [(0,.slice A n c),(1,.slice B n' c')] ⟨rfl,rfl,trivial⟩ (sr (mv 1 rfl (ne_ (cw_seq ?_)))))
 have hXl:=hX.len
 have hDl:=hD.len
 have hXl:(wd X).length≤67108864:=Nat.le_trans hXl hXn
 have hDl:(wd D).length≤67108864:=Nat.le_trans hDl hDn
 have hbX:=blen_bd2 hXl
 have hbD:=blen_bd2 hDl
 have hDb:blen D≠0:=fun e=>by have:=blen_eq_zero.1 e;omega
 refine cw_region (mv 1 rfl (cl (vs:= [.slice A n c]) (Ext.refl w) (app_BitLen hX (lx_ hXn rfl)) rfl (by kernel_rfl) fun xr3 v1 r3 e2 hw1=>?_))
 obtain rfl:=r3
 refine mv 1 rfl (cl (vs:= [.slice B n' c']) hw1 (app_BitLen (hD.ext hw1) (lx_ hDn rfl)) rfl (by kernel_rfl) fun xr6 v4 r6 e5 hw2=>?_)
 obtain rfl:=r6
 refine wl_ar rfl rfl rfl (((blen X:Nat):Int)-((blen D:Nat):Int)) (ar_i64s rfl (by omega) (by omega)) (by decide) (mv 1 rfl (ne_ (cw_seq (cw_block (cw_seq ?_)))))
 by_cases hX0:X=0
 · 
  subst hX0
  refine cw_region (mv 1 rfl (cl (vs:= [.slice A n c]) hw2 (app_BitLen (hX.ext hw2) (lx_ hXn rfl)) rfl (by kernel_rfl) fun xr9 v7 r9 e8 hw3=>?_))
  obtain rfl:=r9
  refine wl_cmp rfl rfl rfl true (eq_t (by rw [blen_zero];rfl)) (by decide) (mv 3 rfl (pu (v:= .bool true) rfl (by kernel_rfl) (mv 1 rfl (ne_ (cw_true rfl (sr (mv 1 rfl (ne_ (cw_ret (eo_block_ret (eo_thenR (eo_ret [.float .f64 0] rfl ⟨rfl,trivial⟩ ?_))))))))))))
  exact⟨_,rfl,(show Value.float .f64 0=_ by rw [near_z hD0]),hw3⟩
 · 
  have hXb:blen X≠0:=fun e=>hX0 (blen_eq_zero.1 e)
  by_cases hlo:((blen X:Nat):Int)-((blen D:Nat):Int)< -1080
  · 
   refine cw_region (mv 1 rfl (cl (vs:= [.slice A n c]) hw2 (app_BitLen (hX.ext hw2) (lx_ hXn rfl)) rfl (by kernel_rfl) fun xr12 v10 r12 e11 hw3=>?_))
   obtain rfl:=r12
   refine wl_cmp rfl rfl rfl false (cb_eq_f (a:=blen X) (b:=0) rfl rfl (by omega)) (by decide) (mv 2 rfl (wl_cmp rfl rfl rfl true (lt_t hlo) (by decide) (pu (v:= .bool true) rfl (by kernel_rfl) (mv 1 rfl (ne_ (cw_true rfl (sr (mv 1 rfl (ne_ (cw_ret (eo_block_ret (eo_thenR (eo_ret [.float .f64 0] rfl ⟨rfl,trivial⟩ ?_)))))))))))))
   exact⟨_,rfl,(show Value.float .f64 0=_ by rw [near_low hX0 hD0 (by omega)]),hw3⟩
  · 
   by_cases hhi:1025<((blen X:Nat):Int)-((blen D:Nat):Int)
   · 
    refine cw_region (mv 1 rfl (cl (vs:= [.slice A n c]) hw2 (app_BitLen (hX.ext hw2) (lx_ hXn rfl)) rfl (by kernel_rfl) fun xr15 v13 r15 e14 hw3=>?_))
    obtain rfl:=r15
    refine wl_cmp rfl rfl rfl false (cb_eq_f (a:=blen X) (b:=0) rfl rfl (by omega)) (by decide) (mv 2 rfl (wl_cmp rfl rfl rfl false (lt_f (by omega)) (by decide) (pu (v:= .bool false) rfl (by kernel_rfl) (mv 1 rfl (ne_ (cw_false rfl (sr (mv 1 rfl (wl_cmp rfl rfl rfl true (gt_t hhi) (by decide) (mv 1 rfl (ne_ (cw_true rfl (cw_seq ?_)))))))))))))
    refine cw_region (pu (v:= .float .f64 9218868437227405312) rfl (by kernel_rfl) (mv 1 rfl (ne_ (cw_ret (eo_block_ret (eo_thenR (eo_ret [.float .f64 9218868437227405312] rfl ⟨rfl,trivial⟩ ?_)))))))
    exact⟨_,rfl,(show Value.float .f64 9218868437227405312=_ by rw [near_high hX0 hD0 (by omega)]),hw3⟩
   · 
    refine cw_region (mv 1 rfl (cl (vs:= [.slice A n c]) hw2 (app_BitLen (hX.ext hw2) (lx_ hXn rfl)) rfl (by kernel_rfl) fun xr18 v16 r18 e17 hw3=>?_))
    obtain rfl:=r18
    refine wl_cmp rfl rfl rfl false (cb_eq_f (a:=blen X) (b:=0) rfl rfl (by omega)) (by decide) (mv 2 rfl (wl_cmp rfl rfl rfl false (lt_f (by omega)) (by decide) (pu (v:= .bool false) rfl (by kernel_rfl) (mv 1 rfl (ne_ (cw_false rfl (sr (mv 1 rfl (wl_cmp rfl rfl rfl false (gt_f (by omega)) (by decide) (mv 1 rfl (ne_ (cw_false rfl (cw_skip ?_)))))))))))))
    refine eo_block_normal (eo_then (cw_seq ?_))
    by_cases hes:((blen X:Nat):Int)-((blen D:Nat):Int)≤55
    · 
     obtain⟨k,hk⟩:∃k:Nat,55-(((blen X:Nat):Int)-((blen D:Nat):Int))=(k:Int):=⟨(55-(((blen X:Nat):Int)-((blen D:Nat):Int))).toNat,by omega⟩
     refine cw_region (mv 1 rfl (wl_ar rfl rfl rfl ((k:Nat):Int) (ar_i64s hk (by omega) (by omega)) (by decide) (mv 1 rfl (ne_ (cw_seq (sr (mv 1 rfl (wl_cmp rfl rfl rfl true (cb_ge_t (a:=k) (b:=0) rfl rfl (by omega)) (by decide) (ne_ (cw_true rfl (cw_region (mv 2 rfl (cl (vs:= [.slice A n c,.int .i64 ((k:Nat):Int)]) hw3 (g_shifted (b:=w.heap.size) hw3.size (by omega) (hX.ext hw3) (lx_ hXn rfl)) rfl (by kernel_rfl) fun xr21 v19 r21 e20 hw4=>?_)))))))))))))
     obtain⟨A22,n22,c22,rfl,j22,o22⟩:=r21
     refine mv 1 rfl (ne_ (cw_seq ?_))
     have hbl:blen (X*2^k)=blen D+55:=by rw [blen_shl hX0];omega
     have hE0:D≠0:=by omega
     refine cw_region (mv 2 rfl (cl (vs:= [.slice A22 n22 c22,.slice B n' c']) hw4 (app_DivMod hw4.size o22.wi (by rw [j22];exact Nat.le_trans (len_shl (n:=67108864) hXl (by omega)) (by decide)) (hD.ext hw4) (lx_ hDn rfl) hE0) rfl (by kernel_rfl) fun xr25 v23 r25 e24 hw5=>?_))
     obtain⟨_,_,_,rfl,⟨A27,n27,c27,rfl,j27,o27⟩,⟨A28,n28,c28,rfl,j28,o28⟩,rfl⟩:=r25
     refine mv 1 rfl (pu (v:= .slice A27 n27 c27) rfl (by kernel_rfl) (pu (v:= .slice A28 n28 c28) rfl (by kernel_rfl) (pu (v:= .int .i64 0) rfl (by kernel_rfl) (mv 3 rfl (ne_ (cw_seq ?_))))))
     have hqb:=blen_quot (Nat.pos_of_ne_zero hE0) hbl
     obtain⟨q,hq⟩:∃q,(X*2^k)/D=q:=⟨_,rfl⟩
     obtain⟨r,hr⟩:∃r,(X*2^k)%D=r:=⟨_,rfl⟩
     rw [hq] at hqb j27 o27
     rw [hr] at j28 o28
     replace hq:=Lib.hid hq
     replace hr:=Lib.hid hr
     have hq0:q≠0:=fun e=>by rw [e,blen_zero] at hqb;omega
     have hq56:q<72057594037927936:=lt56 hqb
     have hq1:=len_w1 hq0 (by omega)
     refine cw_region (mv 1 rfl ?_)
     obtain⟨p29,hp29,hc29⟩:=own_word o27 j27 hq1
     refine wl_idx rfl rfl rfl un_u64 sz_u64 0 rfl (by rw [j27,hq1];decide) p29 hp29 (by decide) (wl_load rfl rfl (load_cell1 ag_u64 hc29) (by decide) (mv 1 rfl (ne_ (cw_seq ?_))))
     obtain⟨d,hd⟩:∃d:Nat,max (((blen q:Nat):Int)-((k:Nat):Int)-53) (-1074)=(d:Int)-((k:Nat):Int):=⟨(max (((blen q:Nat):Int)-((k:Nat):Int)-53) (-1074)+((k:Nat):Int)).toNat,by omega⟩
     have hd2:2≤d:=by omega
     have hdb:blen q≤d+53:=by omega
     obtain⟨p,hp⟩:∃p:Nat,(d:Int)-((k:Nat):Int)- -1074=(p:Int):=⟨((d:Int)-((k:Nat):Int)+1074).toNat,by omega⟩
     have hpz:p=0∨blen q=d+53:=by omega
     have hpu:p≤2048:=by omega
     refine cw_region (mv 1 rfl (cl (vs:= [.slice A27 n27 c27]) hw5 (app_BitLen o27.wi (by rw [j27];exact Nat.le_trans (Nat.le_of_eq hq1) (by decide))) rfl (by kernel_rfl) fun xr32 v30 r32 e31 hw6=>?_))
     obtain rfl:=r32
     refine mv 1 rfl (wl_ar rfl rfl rfl (((blen q:Nat):Int)-((k:Nat):Int)) (ar_i64s rfl (by omega) (by omega)) (by decide) (wl_ar rfl rfl rfl ((((blen q:Nat):Int)-((k:Nat):Int))-53) (ar_i64s rfl (by omega) (by omega)) (by decide) (wl_mmA rfl rfl rfl ((d:Int)-((k:Nat):Int)) hd (by decide) (mv 1 rfl (ne_ (sr (mv 2 rfl (wl_ar rfl rfl rfl ((d:Nat):Int) (ar_i64 (by omega) (by omega) (by omega)) (by decide) (mv 1 rfl (ne_ (cw_seq (cw_seq ?_))))))))))))
     by_cases hd60:60<d
     · 
      refine cw_region (mv 1 rfl (wl_cmp rfl rfl rfl true (cb_gt_t (a:=d) (b:=60) rfl rfl (by omega)) (by decide) (ne_ (cw_true rfl (sr (mv 1 rfl (ne_ (cw_ret (eo_thenR (eo_ret [.float .f64 0] rfl ⟨rfl,trivial⟩ ?_))))))))))
      exact⟨_,rfl,(show Value.float .f64 0=_ by rw [near_drop (X:=X*2^e74) (N:=X*2^k) (E:=D) (d:=d) (p:=p) hD0 (Nat.pos_of_ne_zero hE0) (near_up (by have:=e74_eq;omega)) (show p=0 by omega) hq.out hq56 (by omega)]),hw6⟩
     · 
      refine cw_region (mv 1 rfl (wl_cmp rfl rfl rfl false (cb_gt_f (a:=d) (b:=60) rfl rfl (by omega)) (by decide) (ne_ (cw_false rfl (cw_skip (eo_then (cw_seq ?_)))))))
      have hcode:=near_code (X:=X*2^e74) (D:=D) (N:=X*2^k) (E:=D) (d:=d) (p:=p) hD0 (Nat.pos_of_ne_zero hE0) (by omega) (near_up (by have:=e74_eq;omega)) (by rw [hq.out];exact hdb) (by rw [hq.out];exact hpz)
      rw [hq.out,hr.out] at hcode
      replace hcode:=Lib.hid hcode
      have hm53:=near_m53 hdb (by omega)
      have h2d:1≤2^d:=Nat.two_pow_pos d
      have h2d60:2^d≤2^60:=Nat.pow_le_pow_right (by decide) (by omega)
      have hc64:q%2^d≤q:=Nat.mod_le _ _
      have hd163:d-1≤63:=by omega
      have h2d1:2^(d-1)≤2^d:=Nat.pow_le_pow_right (by decide) (by omega)
      refine cw_region (mv 2 rfl (wl_pureE rfl rfl (v:= .int .u64 (IntKind.u64.wrap ((d:Nat):Int))) (v':= .int .u64 ((d:Nat):Int)) (by decide) (by kernel_rfl) (cv_u64 (by first | omega | exact (by omega))) (wl_op rfl rfl rfl (r:= .int .u64 ((q/2^d:Nat):Int)) rfl (fun w=>u64_shr (x:=q) (s:=d) (by omega) _ _ w) (by decide) (mv 2 rfl (wl_pureE rfl rfl (v:= .int .u64 (IntKind.u64.wrap ((d:Nat):Int))) (v':= .int .u64 ((d:Nat):Int)) (by decide) (by kernel_rfl) (cv_u64 (by first | omega | exact (by omega))) (wl_op rfl rfl rfl (r:= .int .u64 ((2^d:Nat):Int)) rfl (fun w=>u64_shl1A (s:=d) (by omega) _ _ w) (by decide) (wl_ar rfl rfl rfl (((2^d)-1:Nat):Int) (au_sub (a:=2^d) (b:=1) rfl rfl (by omega) (by omega)) (by decide) (wl_op rfl rfl rfl (r:= .int .u64 ((q%2^d:Nat):Int)) rfl (fun w=>u64_mask (x:=q) (d:=d) (by omega) (by omega) _ _ w) (by decide) (mv 2 rfl (ne_ (sr (mv 1 rfl (wl_ar rfl rfl rfl ((d-1:Nat):Int) (ai_sub (a:=d) (b:=1) rfl rfl (by omega) (by omega)) (by decide) ?_)))))))))))))
      refine wl_pureE rfl rfl (v:= .int .u64 (IntKind.u64.wrap ((d-1:Nat):Int))) (v':= .int .u64 ((d-1:Nat):Int)) (by decide) (by kernel_rfl) (cv_u64 (by first | omega | exact (by omega))) (wl_op rfl rfl rfl (r:= .int .u64 ((2^(d-1):Nat):Int)) rfl (fun w=>u64_shl1A (s:=d-1) (by omega) _ _ w) (by decide) (mv 1 rfl (ne_ (cw_seq (cw_seq ?_)))))
      by_cases hab:2^(d-1)<q%2^d
      · 
       refine cw_region (mv 2 rfl (wl_cmp rfl rfl rfl true (cb_gt_t (a:=q%2^d) (b:=2^(d-1)) rfl rfl (by omega)) (by decide) (mv 14 rfl (pu (v:= .bool true) rfl (by kernel_rfl) (ne_ (cw_true rfl (cw_region (mv 1 rfl (wl_ar rfl rfl rfl (((q/2^d)+1:Nat):Int) (au_add (a:=q/2^d) (b:=1) rfl rfl (by omega)) (by decide) (mv 1 rfl (ne_ (sr (mv 1 rfl ?_)))))))))))))
       refine wl_ar rfl rfl rfl ((p:Nat):Int) (ar_i64s hp (by omega) (by omega)) (by decide) (wl_pureE rfl rfl (v:= .int .u64 (IntKind.u64.wrap ((p:Nat):Int))) (v':= .int .u64 ((p:Nat):Int)) (by decide) (by kernel_rfl) (cv_u64 (by first | omega | exact (by omega))) (wl_op rfl rfl rfl (r:= .int .u64 ((p*4503599627370496:Nat):Int)) rfl (fun w=>u64_shl52 (x:=p) (by omega) _ _ w) (by decide) (mv 1 rfl (wl_ar rfl rfl rfl (((p*4503599627370496)+((q/2^d)+1):Nat):Int) (au_add (a:=p*4503599627370496) (b:=(q/2^d)+1) rfl rfl (by omega)) (by decide) (mv 1 rfl (ne_ (sr (mv 1 rfl ?_))))))))
       obtain⟨m64,hm64⟩:∃m,min ((p*4503599627370496)+((q/2^d)+1)) 9218868437227405312=m:=⟨_,rfl⟩
       replace hm64:=Lib.hid hm64
       refine wl_miA rfl rfl rfl (((m64:Nat):Int)) ((min_castA ((p*4503599627370496)+((q/2^d)+1)) 9218868437227405312).trans (by rw [hm64.out])) (by decide) (pu (v:= .float .f64 m64) rfl (by kernel_rfl) (mv 1 rfl (ne_ (cw_ret (eo_ret [.float .f64 m64] rfl ⟨rfl,trivial⟩ ?_)))))
       replace hcode:=hcode.out
       rw [if_pos (Or.inl hab)] at hcode
       exact⟨_,rfl,(show Value.float .f64 m64=_ by unfold nearB;rw [hcode,hm64.out]),hw6⟩
      · 
       by_cases heq:q%2^d=2^(d-1)
       · 
        by_cases hr0:r≠0
        · 
         have hln:n28≠0:=by rw [j28];exact fun e=>hr0 (len_wd_zero.1 e)
         refine cw_region (mv 2 rfl (wl_cmp rfl rfl rfl false (cb_gt_f (a:=q%2^d) (b:=2^(d-1)) rfl rfl (by omega)) (by decide) (mv 3 rfl (wl_cmp rfl rfl rfl true (cb_eq_t (a:=q%2^d) (b:=2^(d-1)) rfl rfl (by omega)) (by decide) (mv 2 rfl (pu (v:= .int .i64 ((n28:Nat):Int)) rfl (by kernel_rfl) (wl_cmp rfl rfl rfl true (cb_gt_t (a:=n28) (b:=0) rfl rfl (by omega)) (by decide) (mv 4 rfl (pu (v:= .bool true) rfl (by kernel_rfl) (pu (v:= .bool true) rfl (by kernel_rfl) (pu (v:= .bool true) rfl (by kernel_rfl) (ne_ (cw_true rfl ?_)))))))))))))
         refine cw_region (mv 1 rfl (wl_ar rfl rfl rfl (((q/2^d)+1:Nat):Int) (au_add (a:=q/2^d) (b:=1) rfl rfl (by omega)) (by decide) (mv 1 rfl (ne_ (sr (mv 1 rfl (wl_ar rfl rfl rfl ((p:Nat):Int) (ar_i64s hp (by omega) (by omega)) (by decide) (wl_pureE rfl rfl (v:= .int .u64 (IntKind.u64.wrap ((p:Nat):Int))) (v':= .int .u64 ((p:Nat):Int)) (by decide) (by kernel_rfl) (cv_u64 (by first | omega | exact (by omega))) (wl_op rfl rfl rfl (r:= .int .u64 ((p*4503599627370496:Nat):Int)) rfl (fun w=>u64_shl52 (x:=p) (by omega) _ _ w) (by decide) (mv 1 rfl (wl_ar rfl rfl rfl (((p*4503599627370496)+((q/2^d)+1):Nat):Int) (au_add (a:=p*4503599627370496) (b:=(q/2^d)+1) rfl rfl (by omega)) (by decide) (mv 1 rfl (wl_nil ?_)))))))))))))
         refine eo_then (sr (mv 1 rfl ?_))
         obtain⟨m64,hm64⟩:∃m,min ((p*4503599627370496)+((q/2^d)+1)) 9218868437227405312=m:=⟨_,rfl⟩
         replace hm64:=Lib.hid hm64
         refine wl_miA rfl rfl rfl (((m64:Nat):Int)) ((min_castA ((p*4503599627370496)+((q/2^d)+1)) 9218868437227405312).trans (by rw [hm64.out])) (by decide) (pu (v:= .float .f64 m64) rfl (by kernel_rfl) (mv 1 rfl (ne_ (cw_ret (eo_ret [.float .f64 m64] rfl ⟨rfl,trivial⟩ ?_)))))
         replace hcode:=hcode.out
         rw [if_pos (Or.inr ⟨heq,Or.inl hr0⟩)] at hcode
         exact⟨_,rfl,(show Value.float .f64 m64=_ by unfold nearB;rw [hcode,hm64.out]),hw6⟩
        · 
         have hln:n28=0:=by rw [j28];exact len_wd_zero.2 (by omega)
         by_cases hod:q/2^d%2=1
         · 
          refine cw_region (mv 2 rfl (wl_cmp rfl rfl rfl false (cb_gt_f (a:=q%2^d) (b:=2^(d-1)) rfl rfl (by omega)) (by decide) (mv 3 rfl (wl_cmp rfl rfl rfl true (cb_eq_t (a:=q%2^d) (b:=2^(d-1)) rfl rfl (by omega)) (by decide) (mv 2 rfl (pu (v:= .int .i64 ((n28:Nat):Int)) rfl (by kernel_rfl) (wl_cmp rfl rfl rfl false (cb_gt_f (a:=n28) (b:=0) rfl rfl (by omega)) (by decide) (mv 2 rfl (wl_op rfl rfl rfl (r:= .int .u64 (((q/2^d)%2:Nat):Int)) rfl (fun w=>u64_and1 (x:=q/2^d) (by first | omega | exact (by omega)) _ _ w) (by decide) (wl_cmp rfl rfl rfl true (cb_eq_t (a:=(q/2^d)%2) (b:=1) rfl rfl (by omega)) (by decide) (pu (v:= .bool true) rfl (by kernel_rfl) (pu (v:= .bool true) rfl (by kernel_rfl) (pu (v:= .bool true) rfl (by kernel_rfl) ?_)))))))))))))
          refine ne_ (cw_true rfl (cw_region (mv 1 rfl (wl_ar rfl rfl rfl (((q/2^d)+1:Nat):Int) (au_add (a:=q/2^d) (b:=1) rfl rfl (by omega)) (by decide) (mv 1 rfl (ne_ (sr (mv 1 rfl (wl_ar rfl rfl rfl ((p:Nat):Int) (ar_i64s hp (by omega) (by omega)) (by decide) (wl_pureE rfl rfl (v:= .int .u64 (IntKind.u64.wrap ((p:Nat):Int))) (v':= .int .u64 ((p:Nat):Int)) (by decide) (by kernel_rfl) (cv_u64 (by first | omega | exact (by omega))) (wl_op rfl rfl rfl (r:= .int .u64 ((p*4503599627370496:Nat):Int)) rfl (fun w=>u64_shl52 (x:=p) (by omega) _ _ w) (by decide) (mv 1 rfl (wl_ar rfl rfl rfl (((p*4503599627370496)+((q/2^d)+1):Nat):Int) (au_add (a:=p*4503599627370496) (b:=(q/2^d)+1) rfl rfl (by omega)) (by decide) ?_)))))))))))))
          refine mv 1 rfl (ne_ (sr (mv 1 rfl ?_)))
          obtain⟨m64,hm64⟩:∃m,min ((p*4503599627370496)+((q/2^d)+1)) 9218868437227405312=m:=⟨_,rfl⟩
          replace hm64:=Lib.hid hm64
          refine wl_miA rfl rfl rfl (((m64:Nat):Int)) ((min_castA ((p*4503599627370496)+((q/2^d)+1)) 9218868437227405312).trans (by rw [hm64.out])) (by decide) (pu (v:= .float .f64 m64) rfl (by kernel_rfl) (mv 1 rfl (ne_ (cw_ret (eo_ret [.float .f64 m64] rfl ⟨rfl,trivial⟩ ?_)))))
          replace hcode:=hcode.out
          rw [if_pos (Or.inr ⟨heq,Or.inr hod⟩)] at hcode
          exact⟨_,rfl,(show Value.float .f64 m64=_ by unfold nearB;rw [hcode,hm64.out]),hw6⟩
         · 
          refine cw_region (mv 2 rfl (wl_cmp rfl rfl rfl false (cb_gt_f (a:=q%2^d) (b:=2^(d-1)) rfl rfl (by omega)) (by decide) (mv 3 rfl (wl_cmp rfl rfl rfl true (cb_eq_t (a:=q%2^d) (b:=2^(d-1)) rfl rfl (by omega)) (by decide) (mv 2 rfl (pu (v:= .int .i64 ((n28:Nat):Int)) rfl (by kernel_rfl) (wl_cmp rfl rfl rfl false (cb_gt_f (a:=n28) (b:=0) rfl rfl (by omega)) (by decide) (mv 2 rfl (wl_op rfl rfl rfl (r:= .int .u64 (((q/2^d)%2:Nat):Int)) rfl (fun w=>u64_and1 (x:=q/2^d) (by first | omega | exact (by omega)) _ _ w) (by decide) (wl_cmp rfl rfl rfl false (cb_eq_f (a:=(q/2^d)%2) (b:=1) rfl rfl (by omega)) (by decide) (pu (v:= .bool false) rfl (by kernel_rfl) (pu (v:= .bool false) rfl (by kernel_rfl) (pu (v:= .bool false) rfl (by kernel_rfl) ?_)))))))))))))
          refine ne_ (cw_false rfl (cw_skip (eo_then (sr (mv 1 rfl (wl_ar rfl rfl rfl ((p:Nat):Int) (ar_i64s hp (by omega) (by omega)) (by decide) (wl_pureE rfl rfl (v:= .int .u64 (IntKind.u64.wrap ((p:Nat):Int))) (v':= .int .u64 ((p:Nat):Int)) (by decide) (by kernel_rfl) (cv_u64 (by first | omega | exact (by omega))) (wl_op rfl rfl rfl (r:= .int .u64 ((p*4503599627370496:Nat):Int)) rfl (fun w=>u64_shl52 (x:=p) (by omega) _ _ w) (by decide) (mv 1 rfl (wl_ar rfl rfl rfl (((p*4503599627370496)+(q/2^d):Nat):Int) (au_add (a:=p*4503599627370496) (b:=q/2^d) rfl rfl (by omega)) (by decide) (mv 1 rfl (ne_ (cw_seq ?_)))))))))))))
          refine cw_region (mv 1 rfl ?_)
          obtain⟨m64,hm64⟩:∃m,min ((p*4503599627370496)+(q/2^d)) 9218868437227405312=m:=⟨_,rfl⟩
          replace hm64:=Lib.hid hm64
          refine wl_miA rfl rfl rfl (((m64:Nat):Int)) ((min_castA ((p*4503599627370496)+(q/2^d)) 9218868437227405312).trans (by rw [hm64.out])) (by decide) (pu (v:= .float .f64 m64) rfl (by kernel_rfl) (mv 1 rfl (ne_ (cw_ret (eo_ret [.float .f64 m64] rfl ⟨rfl,trivial⟩ ?_)))))
          replace hcode:=hcode.out
          rw [if_neg (by omega)] at hcode
          exact⟨_,rfl,(show Value.float .f64 m64=_ by unfold nearB;rw [hcode,hm64.out]),hw6⟩
       · 
        refine cw_region (mv 2 rfl (wl_cmp rfl rfl rfl false (cb_gt_f (a:=q%2^d) (b:=2^(d-1)) rfl rfl (by omega)) (by decide) (mv 3 rfl (wl_cmp rfl rfl rfl false (cb_eq_f (a:=q%2^d) (b:=2^(d-1)) rfl rfl (by omega)) (by decide) (mv 9 rfl (pu (v:= .bool false) rfl (by kernel_rfl) (pu (v:= .bool false) rfl (by kernel_rfl) (ne_ (cw_false rfl (cw_skip (eo_then (sr (mv 1 rfl ?_)))))))))))))
        refine wl_ar rfl rfl rfl ((p:Nat):Int) (ar_i64s hp (by omega) (by omega)) (by decide) (wl_pureE rfl rfl (v:= .int .u64 (IntKind.u64.wrap ((p:Nat):Int))) (v':= .int .u64 ((p:Nat):Int)) (by decide) (by kernel_rfl) (cv_u64 (by first | omega | exact (by omega))) (wl_op rfl rfl rfl (r:= .int .u64 ((p*4503599627370496:Nat):Int)) rfl (fun w=>u64_shl52 (x:=p) (by omega) _ _ w) (by decide) (mv 1 rfl (wl_ar rfl rfl rfl (((p*4503599627370496)+(q/2^d):Nat):Int) (au_add (a:=p*4503599627370496) (b:=q/2^d) rfl rfl (by omega)) (by decide) (mv 1 rfl (ne_ (sr (mv 1 rfl ?_))))))))
        obtain⟨m64,hm64⟩:∃m,min ((p*4503599627370496)+(q/2^d)) 9218868437227405312=m:=⟨_,rfl⟩
        replace hm64:=Lib.hid hm64
        refine wl_miA rfl rfl rfl (((m64:Nat):Int)) ((min_castA ((p*4503599627370496)+(q/2^d)) 9218868437227405312).trans (by rw [hm64.out])) (by decide) (pu (v:= .float .f64 m64) rfl (by kernel_rfl) (mv 1 rfl (ne_ (cw_ret (eo_ret [.float .f64 m64] rfl ⟨rfl,trivial⟩ ?_)))))
        replace hcode:=hcode.out
        rw [if_neg (by omega)] at hcode
        exact⟨_,rfl,(show Value.float .f64 m64=_ by unfold nearB;rw [hcode,hm64.out]),hw6⟩
    · 
     obtain⟨k,hk⟩:∃k:Nat,55-(((blen X:Nat):Int)-((blen D:Nat):Int))= -(k:Int):=⟨(-(55-(((blen X:Nat):Int)-((blen D:Nat):Int)))).toNat,by omega⟩
     refine cw_region (mv 1 rfl (wl_ar rfl rfl rfl (-((k:Nat):Int)) (ar_i64s hk (by omega) (by omega)) (by decide) (mv 1 rfl (ne_ (cw_seq (sr (mv 1 rfl (wl_cmp rfl rfl rfl false (ge_f (by omega)) (by decide) (ne_ (cw_false rfl (cw_region (mv 2 rfl (wl_pureE rfl rfl (v:= .int .i64 (IntKind.i64.wrap (0- -((k:Nat):Int)))) (v':= .int .i64 ((k:Nat):Int)) (by decide) (by kernel_rfl) (cv_neg (by omega)) ?_)))))))))))))
     refine cl (vs:= [.slice B n' c',.int .i64 ((k:Nat):Int)]) hw3 (g_shifted (b:=w.heap.size) hw3.size (by omega) (hD.ext hw3) (lx_ hDn rfl)) rfl (by kernel_rfl) fun xr35 v33 r35 e34 hw4=>?_
     obtain⟨A36,n36,c36,rfl,j36,o36⟩:=r35
     refine mv 1 rfl (ne_ (cw_seq ?_))
     have hD1:D≠0:=by omega
     have hbl:blen X=blen (D*2^k)+55:=by rw [blen_shl hD1];omega
     have hE0:D*2^k≠0:=Nat.ne_of_gt (Nat.mul_pos hD0 (Nat.two_pow_pos k))
     refine cw_region (mv 2 rfl (cl (vs:= [.slice A n c,.slice A36 n36 c36]) hw4 (app_DivMod hw4.size (hX.ext hw4) (lx_ hXn rfl) o36.wi (by rw [j36];exact Nat.le_trans (len_shl (n:=67108864) hDl (by omega)) (by decide)) hE0) rfl (by kernel_rfl) fun xr39 v37 r39 e38 hw5=>?_))
     obtain⟨_,_,_,rfl,⟨A41,n41,c41,rfl,j41,o41⟩,⟨A42,n42,c42,rfl,j42,o42⟩,rfl⟩:=r39
     refine mv 1 rfl (pu (v:= .slice A41 n41 c41) rfl (by kernel_rfl) (pu (v:= .slice A42 n42 c42) rfl (by kernel_rfl) (pu (v:= .int .i64 0) rfl (by kernel_rfl) (mv 3 rfl (ne_ (cw_seq ?_))))))
     have hqb:=blen_quot (Nat.pos_of_ne_zero hE0) hbl
     obtain⟨q,hq⟩:∃q,X/(D*2^k)=q:=⟨_,rfl⟩
     obtain⟨r,hr⟩:∃r,X%(D*2^k)=r:=⟨_,rfl⟩
     rw [hq] at hqb j41 o41
     rw [hr] at j42 o42
     replace hq:=Lib.hid hq
     replace hr:=Lib.hid hr
     have hq0:q≠0:=fun e=>by rw [e,blen_zero] at hqb;omega
     have hq56:q<72057594037927936:=lt56 hqb
     have hq1:=len_w1 hq0 (by omega)
     refine cw_region (mv 1 rfl ?_)
     obtain⟨p43,hp43,hc43⟩:=own_word o41 j41 hq1
     refine wl_idx rfl rfl rfl un_u64 sz_u64 0 rfl (by rw [j41,hq1];decide) p43 hp43 (by decide) (wl_load rfl rfl (load_cell1 ag_u64 hc43) (by decide) (mv 1 rfl (ne_ (cw_seq ?_))))
     obtain⟨d,hd⟩:∃d:Nat,max (((blen q:Nat):Int)- -((k:Nat):Int)-53) (-1074)=(d:Int)- -((k:Nat):Int):=⟨(max (((blen q:Nat):Int)- -((k:Nat):Int)-53) (-1074)+ -((k:Nat):Int)).toNat,by omega⟩
     have hd2:2≤d:=by omega
     have hdb:blen q≤d+53:=by omega
     obtain⟨p,hp⟩:∃p:Nat,(d:Int)- -((k:Nat):Int)- -1074=(p:Int):=⟨((d:Int)- -((k:Nat):Int)+1074).toNat,by omega⟩
     have hpz:p=0∨blen q=d+53:=by omega
     have hpu:p≤2048:=by omega
     refine cw_region (mv 1 rfl (cl (vs:= [.slice A41 n41 c41]) hw5 (app_BitLen o41.wi (by rw [j41];exact Nat.le_trans (Nat.le_of_eq hq1) (by decide))) rfl (by kernel_rfl) fun xr46 v44 r46 e45 hw6=>?_))
     obtain rfl:=r46
     refine mv 1 rfl (wl_ar rfl rfl rfl (((blen q:Nat):Int)-(-((k:Nat):Int))) (ar_i64s rfl (by omega) (by omega)) (by decide) (wl_ar rfl rfl rfl ((((blen q:Nat):Int)-(-((k:Nat):Int)))-53) (ar_i64s rfl (by omega) (by omega)) (by decide) (wl_mmA rfl rfl rfl ((d:Int)- -((k:Nat):Int)) hd (by decide) (mv 1 rfl (ne_ (sr (mv 2 rfl (wl_ar rfl rfl rfl ((d:Nat):Int) (ar_i64 (by omega) (by omega) (by omega)) (by decide) (mv 1 rfl (ne_ (cw_seq (cw_seq ?_))))))))))))
     by_cases hd60:60<d
     · 
      refine cw_region (mv 1 rfl (wl_cmp rfl rfl rfl true (cb_gt_t (a:=d) (b:=60) rfl rfl (by omega)) (by decide) (ne_ (cw_true rfl (sr (mv 1 rfl (ne_ (cw_ret (eo_thenR (eo_ret [.float .f64 0] rfl ⟨rfl,trivial⟩ ?_))))))))))
      exact⟨_,rfl,(show Value.float .f64 0=_ by rw [near_drop (X:=X*2^e74) (N:=X) (E:=D*2^k) (d:=d) (p:=p) hD0 (Nat.pos_of_ne_zero hE0) (near_dn (by have:=e74_eq;omega)) (show p=0 by omega) hq.out hq56 (by omega)]),hw6⟩
     · 
      refine cw_region (mv 1 rfl (wl_cmp rfl rfl rfl false (cb_gt_f (a:=d) (b:=60) rfl rfl (by omega)) (by decide) (ne_ (cw_false rfl (cw_skip (eo_then (cw_seq ?_)))))))
      have hcode:=near_code (X:=X*2^e74) (D:=D) (N:=X) (E:=D*2^k) (d:=d) (p:=p) hD0 (Nat.pos_of_ne_zero hE0) (by omega) (near_dn (by have:=e74_eq;omega)) (by rw [hq.out];exact hdb) (by rw [hq.out];exact hpz)
      rw [hq.out,hr.out] at hcode
      replace hcode:=Lib.hid hcode
      have hm53:=near_m53 hdb (by omega)
      have h2d:1≤2^d:=Nat.two_pow_pos d
      have h2d60:2^d≤2^60:=Nat.pow_le_pow_right (by decide) (by omega)
      have hc64:q%2^d≤q:=Nat.mod_le _ _
      have hd163:d-1≤63:=by omega
      have h2d1:2^(d-1)≤2^d:=Nat.pow_le_pow_right (by decide) (by omega)
      refine cw_region (mv 2 rfl (wl_pureE rfl rfl (v:= .int .u64 (IntKind.u64.wrap ((d:Nat):Int))) (v':= .int .u64 ((d:Nat):Int)) (by decide) (by kernel_rfl) (cv_u64 (by first | omega | exact (by omega))) (wl_op rfl rfl rfl (r:= .int .u64 ((q/2^d:Nat):Int)) rfl (fun w=>u64_shr (x:=q) (s:=d) (by omega) _ _ w) (by decide) (mv 2 rfl (wl_pureE rfl rfl (v:= .int .u64 (IntKind.u64.wrap ((d:Nat):Int))) (v':= .int .u64 ((d:Nat):Int)) (by decide) (by kernel_rfl) (cv_u64 (by first | omega | exact (by omega))) (wl_op rfl rfl rfl (r:= .int .u64 ((2^d:Nat):Int)) rfl (fun w=>u64_shl1A (s:=d) (by omega) _ _ w) (by decide) (wl_ar rfl rfl rfl (((2^d)-1:Nat):Int) (au_sub (a:=2^d) (b:=1) rfl rfl (by omega) (by omega)) (by decide) (wl_op rfl rfl rfl (r:= .int .u64 ((q%2^d:Nat):Int)) rfl (fun w=>u64_mask (x:=q) (d:=d) (by omega) (by omega) _ _ w) (by decide) (mv 2 rfl (ne_ (sr (mv 1 rfl (wl_ar rfl rfl rfl ((d-1:Nat):Int) (ai_sub (a:=d) (b:=1) rfl rfl (by omega) (by omega)) (by decide) ?_)))))))))))))
      refine wl_pureE rfl rfl (v:= .int .u64 (IntKind.u64.wrap ((d-1:Nat):Int))) (v':= .int .u64 ((d-1:Nat):Int)) (by decide) (by kernel_rfl) (cv_u64 (by first | omega | exact (by omega))) (wl_op rfl rfl rfl (r:= .int .u64 ((2^(d-1):Nat):Int)) rfl (fun w=>u64_shl1A (s:=d-1) (by omega) _ _ w) (by decide) (mv 1 rfl (ne_ (cw_seq (cw_seq ?_)))))
      by_cases hab:2^(d-1)<q%2^d
      · 
       refine cw_region (mv 2 rfl (wl_cmp rfl rfl rfl true (cb_gt_t (a:=q%2^d) (b:=2^(d-1)) rfl rfl (by omega)) (by decide) (mv 14 rfl (pu (v:= .bool true) rfl (by kernel_rfl) (ne_ (cw_true rfl (cw_region (mv 1 rfl (wl_ar rfl rfl rfl (((q/2^d)+1:Nat):Int) (au_add (a:=q/2^d) (b:=1) rfl rfl (by omega)) (by decide) (mv 1 rfl (ne_ (sr (mv 1 rfl ?_)))))))))))))
       refine wl_ar rfl rfl rfl ((p:Nat):Int) (ar_i64s hp (by omega) (by omega)) (by decide) (wl_pureE rfl rfl (v:= .int .u64 (IntKind.u64.wrap ((p:Nat):Int))) (v':= .int .u64 ((p:Nat):Int)) (by decide) (by kernel_rfl) (cv_u64 (by first | omega | exact (by omega))) (wl_op rfl rfl rfl (r:= .int .u64 ((p*4503599627370496:Nat):Int)) rfl (fun w=>u64_shl52 (x:=p) (by omega) _ _ w) (by decide) (mv 1 rfl (wl_ar rfl rfl rfl (((p*4503599627370496)+((q/2^d)+1):Nat):Int) (au_add (a:=p*4503599627370496) (b:=(q/2^d)+1) rfl rfl (by omega)) (by decide) (mv 1 rfl (ne_ (sr (mv 1 rfl ?_))))))))
       obtain⟨m64,hm64⟩:∃m,min ((p*4503599627370496)+((q/2^d)+1)) 9218868437227405312=m:=⟨_,rfl⟩
       replace hm64:=Lib.hid hm64
       refine wl_miA rfl rfl rfl (((m64:Nat):Int)) ((min_castA ((p*4503599627370496)+((q/2^d)+1)) 9218868437227405312).trans (by rw [hm64.out])) (by decide) (pu (v:= .float .f64 m64) rfl (by kernel_rfl) (mv 1 rfl (ne_ (cw_ret (eo_ret [.float .f64 m64] rfl ⟨rfl,trivial⟩ ?_)))))
       replace hcode:=hcode.out
       rw [if_pos (Or.inl hab)] at hcode
       exact⟨_,rfl,(show Value.float .f64 m64=_ by unfold nearB;rw [hcode,hm64.out]),hw6⟩
      · 
       by_cases heq:q%2^d=2^(d-1)
       · 
        by_cases hr0:r≠0
        · 
         have hln:n42≠0:=by rw [j42];exact fun e=>hr0 (len_wd_zero.1 e)
         refine cw_region (mv 2 rfl (wl_cmp rfl rfl rfl false (cb_gt_f (a:=q%2^d) (b:=2^(d-1)) rfl rfl (by omega)) (by decide) (mv 3 rfl (wl_cmp rfl rfl rfl true (cb_eq_t (a:=q%2^d) (b:=2^(d-1)) rfl rfl (by omega)) (by decide) (mv 2 rfl (pu (v:= .int .i64 ((n42:Nat):Int)) rfl (by kernel_rfl) (wl_cmp rfl rfl rfl true (cb_gt_t (a:=n42) (b:=0) rfl rfl (by omega)) (by decide) (mv 4 rfl (pu (v:= .bool true) rfl (by kernel_rfl) (pu (v:= .bool true) rfl (by kernel_rfl) (pu (v:= .bool true) rfl (by kernel_rfl) (ne_ (cw_true rfl ?_)))))))))))))
         refine cw_region (mv 1 rfl (wl_ar rfl rfl rfl (((q/2^d)+1:Nat):Int) (au_add (a:=q/2^d) (b:=1) rfl rfl (by omega)) (by decide) (mv 1 rfl (ne_ (sr (mv 1 rfl (wl_ar rfl rfl rfl ((p:Nat):Int) (ar_i64s hp (by omega) (by omega)) (by decide) (wl_pureE rfl rfl (v:= .int .u64 (IntKind.u64.wrap ((p:Nat):Int))) (v':= .int .u64 ((p:Nat):Int)) (by decide) (by kernel_rfl) (cv_u64 (by first | omega | exact (by omega))) (wl_op rfl rfl rfl (r:= .int .u64 ((p*4503599627370496:Nat):Int)) rfl (fun w=>u64_shl52 (x:=p) (by omega) _ _ w) (by decide) (mv 1 rfl (wl_ar rfl rfl rfl (((p*4503599627370496)+((q/2^d)+1):Nat):Int) (au_add (a:=p*4503599627370496) (b:=(q/2^d)+1) rfl rfl (by omega)) (by decide) (mv 1 rfl (wl_nil ?_)))))))))))))
         refine eo_then (sr (mv 1 rfl ?_))
         obtain⟨m64,hm64⟩:∃m,min ((p*4503599627370496)+((q/2^d)+1)) 9218868437227405312=m:=⟨_,rfl⟩
         replace hm64:=Lib.hid hm64
         refine wl_miA rfl rfl rfl (((m64:Nat):Int)) ((min_castA ((p*4503599627370496)+((q/2^d)+1)) 9218868437227405312).trans (by rw [hm64.out])) (by decide) (pu (v:= .float .f64 m64) rfl (by kernel_rfl) (mv 1 rfl (ne_ (cw_ret (eo_ret [.float .f64 m64] rfl ⟨rfl,trivial⟩ ?_)))))
         replace hcode:=hcode.out
         rw [if_pos (Or.inr ⟨heq,Or.inl hr0⟩)] at hcode
         exact⟨_,rfl,(show Value.float .f64 m64=_ by unfold nearB;rw [hcode,hm64.out]),hw6⟩
        · 
         have hln:n42=0:=by rw [j42];exact len_wd_zero.2 (by omega)
         by_cases hod:q/2^d%2=1
         · 
          refine cw_region (mv 2 rfl (wl_cmp rfl rfl rfl false (cb_gt_f (a:=q%2^d) (b:=2^(d-1)) rfl rfl (by omega)) (by decide) (mv 3 rfl (wl_cmp rfl rfl rfl true (cb_eq_t (a:=q%2^d) (b:=2^(d-1)) rfl rfl (by omega)) (by decide) (mv 2 rfl (pu (v:= .int .i64 ((n42:Nat):Int)) rfl (by kernel_rfl) (wl_cmp rfl rfl rfl false (cb_gt_f (a:=n42) (b:=0) rfl rfl (by omega)) (by decide) (mv 2 rfl (wl_op rfl rfl rfl (r:= .int .u64 (((q/2^d)%2:Nat):Int)) rfl (fun w=>u64_and1 (x:=q/2^d) (by first | omega | exact (by omega)) _ _ w) (by decide) (wl_cmp rfl rfl rfl true (cb_eq_t (a:=(q/2^d)%2) (b:=1) rfl rfl (by omega)) (by decide) (pu (v:= .bool true) rfl (by kernel_rfl) (pu (v:= .bool true) rfl (by kernel_rfl) (pu (v:= .bool true) rfl (by kernel_rfl) ?_)))))))))))))
          refine ne_ (cw_true rfl (cw_region (mv 1 rfl (wl_ar rfl rfl rfl (((q/2^d)+1:Nat):Int) (au_add (a:=q/2^d) (b:=1) rfl rfl (by omega)) (by decide) (mv 1 rfl (ne_ (sr (mv 1 rfl (wl_ar rfl rfl rfl ((p:Nat):Int) (ar_i64s hp (by omega) (by omega)) (by decide) (wl_pureE rfl rfl (v:= .int .u64 (IntKind.u64.wrap ((p:Nat):Int))) (v':= .int .u64 ((p:Nat):Int)) (by decide) (by kernel_rfl) (cv_u64 (by first | omega | exact (by omega))) (wl_op rfl rfl rfl (r:= .int .u64 ((p*4503599627370496:Nat):Int)) rfl (fun w=>u64_shl52 (x:=p) (by omega) _ _ w) (by decide) (mv 1 rfl (wl_ar rfl rfl rfl (((p*4503599627370496)+((q/2^d)+1):Nat):Int) (au_add (a:=p*4503599627370496) (b:=(q/2^d)+1) rfl rfl (by omega)) (by decide) ?_)))))))))))))
          refine mv 1 rfl (ne_ (sr (mv 1 rfl ?_)))
          obtain⟨m64,hm64⟩:∃m,min ((p*4503599627370496)+((q/2^d)+1)) 9218868437227405312=m:=⟨_,rfl⟩
          replace hm64:=Lib.hid hm64
          refine wl_miA rfl rfl rfl (((m64:Nat):Int)) ((min_castA ((p*4503599627370496)+((q/2^d)+1)) 9218868437227405312).trans (by rw [hm64.out])) (by decide) (pu (v:= .float .f64 m64) rfl (by kernel_rfl) (mv 1 rfl (ne_ (cw_ret (eo_ret [.float .f64 m64] rfl ⟨rfl,trivial⟩ ?_)))))
          replace hcode:=hcode.out
          rw [if_pos (Or.inr ⟨heq,Or.inr hod⟩)] at hcode
          exact⟨_,rfl,(show Value.float .f64 m64=_ by unfold nearB;rw [hcode,hm64.out]),hw6⟩
         · 
          refine cw_region (mv 2 rfl (wl_cmp rfl rfl rfl false (cb_gt_f (a:=q%2^d) (b:=2^(d-1)) rfl rfl (by omega)) (by decide) (mv 3 rfl (wl_cmp rfl rfl rfl true (cb_eq_t (a:=q%2^d) (b:=2^(d-1)) rfl rfl (by omega)) (by decide) (mv 2 rfl (pu (v:= .int .i64 ((n42:Nat):Int)) rfl (by kernel_rfl) (wl_cmp rfl rfl rfl false (cb_gt_f (a:=n42) (b:=0) rfl rfl (by omega)) (by decide) (mv 2 rfl (wl_op rfl rfl rfl (r:= .int .u64 (((q/2^d)%2:Nat):Int)) rfl (fun w=>u64_and1 (x:=q/2^d) (by first | omega | exact (by omega)) _ _ w) (by decide) (wl_cmp rfl rfl rfl false (cb_eq_f (a:=(q/2^d)%2) (b:=1) rfl rfl (by omega)) (by decide) (pu (v:= .bool false) rfl (by kernel_rfl) (pu (v:= .bool false) rfl (by kernel_rfl) (pu (v:= .bool false) rfl (by kernel_rfl) ?_)))))))))))))
          refine ne_ (cw_false rfl (cw_skip (eo_then (sr (mv 1 rfl (wl_ar rfl rfl rfl ((p:Nat):Int) (ar_i64s hp (by omega) (by omega)) (by decide) (wl_pureE rfl rfl (v:= .int .u64 (IntKind.u64.wrap ((p:Nat):Int))) (v':= .int .u64 ((p:Nat):Int)) (by decide) (by kernel_rfl) (cv_u64 (by first | omega | exact (by omega))) (wl_op rfl rfl rfl (r:= .int .u64 ((p*4503599627370496:Nat):Int)) rfl (fun w=>u64_shl52 (x:=p) (by omega) _ _ w) (by decide) (mv 1 rfl (wl_ar rfl rfl rfl (((p*4503599627370496)+(q/2^d):Nat):Int) (au_add (a:=p*4503599627370496) (b:=q/2^d) rfl rfl (by omega)) (by decide) (mv 1 rfl (ne_ (cw_seq ?_)))))))))))))
          refine cw_region (mv 1 rfl ?_)
          obtain⟨m64,hm64⟩:∃m,min ((p*4503599627370496)+(q/2^d)) 9218868437227405312=m:=⟨_,rfl⟩
          replace hm64:=Lib.hid hm64
          refine wl_miA rfl rfl rfl (((m64:Nat):Int)) ((min_castA ((p*4503599627370496)+(q/2^d)) 9218868437227405312).trans (by rw [hm64.out])) (by decide) (pu (v:= .float .f64 m64) rfl (by kernel_rfl) (mv 1 rfl (ne_ (cw_ret (eo_ret [.float .f64 m64] rfl ⟨rfl,trivial⟩ ?_)))))
          replace hcode:=hcode.out
          rw [if_neg (by omega)] at hcode
          exact⟨_,rfl,(show Value.float .f64 m64=_ by unfold nearB;rw [hcode,hm64.out]),hw6⟩
       · 
        refine cw_region (mv 2 rfl (wl_cmp rfl rfl rfl false (cb_gt_f (a:=q%2^d) (b:=2^(d-1)) rfl rfl (by omega)) (by decide) (mv 3 rfl (wl_cmp rfl rfl rfl false (cb_eq_f (a:=q%2^d) (b:=2^(d-1)) rfl rfl (by omega)) (by decide) (mv 9 rfl (pu (v:= .bool false) rfl (by kernel_rfl) (pu (v:= .bool false) rfl (by kernel_rfl) (ne_ (cw_false rfl (cw_skip (eo_then (sr (mv 1 rfl ?_)))))))))))))
        refine wl_ar rfl rfl rfl ((p:Nat):Int) (ar_i64s hp (by omega) (by omega)) (by decide) (wl_pureE rfl rfl (v:= .int .u64 (IntKind.u64.wrap ((p:Nat):Int))) (v':= .int .u64 ((p:Nat):Int)) (by decide) (by kernel_rfl) (cv_u64 (by first | omega | exact (by omega))) (wl_op rfl rfl rfl (r:= .int .u64 ((p*4503599627370496:Nat):Int)) rfl (fun w=>u64_shl52 (x:=p) (by omega) _ _ w) (by decide) (mv 1 rfl (wl_ar rfl rfl rfl (((p*4503599627370496)+(q/2^d):Nat):Int) (au_add (a:=p*4503599627370496) (b:=q/2^d) rfl rfl (by omega)) (by decide) (mv 1 rfl (ne_ (sr (mv 1 rfl ?_))))))))
        obtain⟨m64,hm64⟩:∃m,min ((p*4503599627370496)+(q/2^d)) 9218868437227405312=m:=⟨_,rfl⟩
        replace hm64:=Lib.hid hm64
        refine wl_miA rfl rfl rfl (((m64:Nat):Int)) ((min_castA ((p*4503599627370496)+(q/2^d)) 9218868437227405312).trans (by rw [hm64.out])) (by decide) (pu (v:= .float .f64 m64) rfl (by kernel_rfl) (mv 1 rfl (ne_ (cw_ret (eo_ret [.float .f64 m64] rfl ⟨rfl,trivial⟩ ?_)))))
        replace hcode:=hcode.out
        rw [if_neg (by omega)] at hcode
        exact⟨_,rfl,(show Value.float .f64 m64=_ by unfold nearB;rw [hcode,hm64.out]),hw6⟩
def sgnb (b:Nat):Bool:=decide (b/9223372036854775808=1)
def fld (b:Nat):Nat:=b/4503599627370496%2048
def pm (b:Nat):Nat:=if fld b=0 then b%4503599627370496 else b%4503599627370496+4503599627370496
def pe (b:Nat):Nat:=fld b-1
theorem fld_le (b:Nat):fld b≤2047:=by unfold fld;omega
theorem fin_fld {b:Nat}:fin b↔fld b≠2047:=by
 unfold fin mg fld;omega
theorem pm_lt (b:Nat):pm b<9007199254740992:=by unfold pm;split <;> omega
theorem pe_le {b:Nat}(h:fin b):pe b≤2045:=by have:=fin_fld.1 h;have:=fld_le b;unfold pe;omega
theorem rv_pm (b:Nat):rv (mg b)=pm b*2^pe b:=by
 unfold pm pe
 have e1:mg b/4503599627370496=fld b:=by unfold mg fld;omega
 have e2:mg b%4503599627370496=b%4503599627370496:=by unfold mg;omega
 by_cases h:fld b=0
 ·rw [if_pos h,h]
  have h1:mg b<4503599627370496:=by omega
  rw [rv_low h1,Nat.pow_zero,Nat.mul_one,←e2,Nat.mod_eq_of_lt h1]
 ·rw [if_neg h]
  unfold rv
  rw [if_neg (by omega),e1,e2,Nat.add_comm]
def fv (b:Nat):Int:=sg (sgnb b) (rv (mg b))
theorem read_parts {b:Nat}(hb:b<18446744073709551616) (h:fin b):double.read b= .number (sgnb b) (pm b) ((pe b:Int)+ -1074):=by
 have hs:(b/9223372036854775808%2==1)=sgnb b:=by
  unfold sgnb
  have:b/9223372036854775808%2=b/9223372036854775808:=by omega
  rw [this];rfl
 have h0:=h
 unfold fin mg at h
 unfold Format.read
 simp only [dbl_sw,dbl_bin,dbl_inf,dbl_lp,hs]
 have e1:b%9223372036854775808/4503599627370496=fld b:=by unfold fld;omega
 unfold pm pe
 by_cases h1:b%9223372036854775808<4503599627370496
 ·have hf:fld b=0:=by omega
  rw [if_pos h1,if_pos hf,hf]
  have:b%9223372036854775808=b%4503599627370496:=by omega
  rw [this];rfl
 ·have hf:fld b≠0:=by omega
  rw [if_neg h1,if_pos h,if_neg hf,e1]
  have:b%9223372036854775808%4503599627370496=b%4503599627370496:=by omega
  rw [this,Nat.add_comm,Int.add_comm]
theorem sg_mulN (s:Bool) (m k:Nat):sg s (m*k)=sg s m*(k:Int):=by
 cases s
 ·rw [sg_false,sg_false,Int.natCast_mul]
 ·rw [sg_true,sg_true,Int.natCast_mul,Int.neg_mul]
theorem signed_sg (s:Bool) (m k:Nat):Ieee.signed s m k=sg s (m*2^k):=by
 unfold Ieee.signed
 rw [Nat.shiftLeft_eq]
 cases s
 ·rw [sg_false];rfl
 ·rw [sg_true];rfl
theorem compare_scale {a b:Int}{k:Nat}(hk:0<k):compare (a*(k:Int)) (b*(k:Int))=compare a b:=by
 have hp:(0:Int)<(k:Int):=by omega
 rcases Int.lt_trichotomy a b with h | h | h
 ·rw [Int.compare_eq_lt.2 h,Int.compare_eq_lt.2 (Int.mul_lt_mul_of_pos_right h hp)]
 ·subst h;rw [Int.compare_eq_eq.2 rfl,Int.compare_eq_eq.2 rfl]
 ·rw [Int.compare_eq_gt.2 h,Int.compare_eq_gt.2 (Int.mul_lt_mul_of_pos_right h hp)]
theorem order_fin {x y:Nat}(hx:x<18446744073709551616) (hy:y<18446744073709551616) (h:fin x) (h':fin y):double.order x y=some (compare (fv x) (fv y)):=by
 unfold Format.order
 rw [read_parts hx h,read_parts hy h']
 simp only [Datum.order,signed_sg]
 congr 1
 unfold fv
 rw [rv_pm,rv_pm]
 obtain⟨p,hp⟩:∃p,min (pe x) (pe y)=p:=⟨_,rfl⟩
 have e1:(((pe x:Int)+ -1074)-min ((pe x:Int)+ -1074) ((pe y:Int)+ -1074)).toNat=pe x-p:=by omega
 have e2:(((pe y:Int)+ -1074)-min ((pe x:Int)+ -1074) ((pe y:Int)+ -1074)).toNat=pe y-p:=by omega
 rw [e1,e2]
 have e3:∀q,p≤q→∀s m,sg s (m*2^q)=sg s (m*2^(q-p))*((2^p:Nat):Int):=by
  intro q hq s m
  rw [←sg_mulN,Nat.mul_assoc,←Nat.pow_add,show q-p+p=q by omega]
 rw [e3 (pe x) (by omega),e3 (pe y) (by omega),compare_scale (Nat.two_pow_pos p)]
def tzF:Nat→Nat→Nat
 | 0,_=>0
 | f+1,m=>if m%2=0 then tzF f (m/2)+1 else 0
def tz (m:Nat):Nat:=tzF 64 m
def od (m:Nat):Nat:=m/2^tz m
theorem tzF_eq:∀(f w j:Nat),w%2=1→j<f→tzF f (w*2^j)=j
 | 0,_,_,_,h=>absurd h (Nat.not_lt_zero _)
 | f+1,w,0,hw,_=>by
  unfold tzF
  rw [Nat.pow_zero,Nat.mul_one,if_neg (by omega)]
 | f+1,w,j+1,hw,h=>by
  unfold tzF
  have e:w*2^(j+1)=2*(w*2^j):=by rw [Nat.pow_succ,←Nat.mul_assoc,Nat.mul_comm]
  rw [e,if_pos (Nat.mul_mod_right _ _),Nat.mul_div_cancel_left _ (by decide),tzF_eq f w j hw (by omega)]
theorem tz_eq {m w j:Nat}(h:m=w*2^j) (hw:w%2=1) (hm:m<9007199254740992):tz m=j∧od m=w:=by
 have hj:j<64:=by
  have h1:2^j≤m:=by rw [h];exact Nat.le_mul_of_pos_left _ (by omega)
  have h2:2^j<2^53:=Nat.lt_of_le_of_lt h1 hm
  have:=(Nat.pow_lt_pow_iff_right (a:=2) (by omega)).1 h2
  omega
 have e:tz m=j:=by unfold tz;rw [h];exact tzF_eq 64 w j hw hj
 refine⟨e,?_⟩
 unfold od
 rw [e,h,Nat.mul_div_cancel _ (Nat.two_pow_pos j)]
theorem od_split {m:Nat}(h0:m≠0) (hm:m<9007199254740992):m=od m*2^tz m∧od m%2=1∧tz m≤53:=by
 have key:∀n,∀m,m≤n→m≠0→∃w j,m=w*2^j∧w%2=1:=by
  intro n
  induction n with
  | zero=>intro m h1 h2;omega
  | succ n ih=>
   intro m h1 h2
   by_cases hp:m%2=1
   ·exact⟨m,0,by rw [Nat.pow_zero,Nat.mul_one],hp⟩
   ·obtain⟨w,j,e,hw⟩:=ih (m/2) (by omega) (by omega)
    refine⟨w,j+1,?_,hw⟩
    rw [Nat.pow_succ,←Nat.mul_assoc,←e];omega
 obtain⟨w,j,e,hw⟩:=key m m (Nat.le_refl _) h0
 obtain⟨e1,e2⟩:=tz_eq e hw hm
 refine⟨by rw [e1,e2];exact e,by rw [e2];exact hw,?_⟩
 rw [e1]
 have h1:2^j≤m:=by rw [e];exact Nat.le_mul_of_pos_left _ (by omega)
 have h2:2^j<2^53:=Nat.lt_of_le_of_lt h1 hm
 have:=(Nat.pow_lt_pow_iff_right (a:=2) (by omega)).1 h2
 omega
theorem od_zero:od 0=0:=by unfold od;exact Nat.zero_div _
def spM (b:Nat):Int:=sg (sgnb b) (od (pm b))
def spN (b:Nat):Int:=if pm b=0 then 0 else (pe b:Int)+ -1074+(tz (pm b):Int)
def whV (b:Nat):Int:=sg (sgnb b) (rv (mg b)/2^e74)
theorem sg_z0 (s:Bool):sg s 0=0:=by cases s <;> rfl
theorem whole_up {b k:Nat}(h:spN b=(k:Int)):sg (sgnb b) (od (pm b)*2^k)=whV b:=by
 unfold whV
 congr 1
 rw [rv_pm]
 unfold spN at h
 by_cases h0:pm b=0
 ·rw [h0,od_zero,Nat.zero_mul,Nat.zero_mul,Nat.zero_div]
 ·rw [if_neg h0] at h
  obtain⟨e,_,_⟩:=od_split h0 (pm_lt b)
  have e2:pm b*2^pe b=od (pm b)*2^k*2^e74:=by
   have e3:(2:Nat)^tz (pm b)*2^pe b=2^k*2^e74:=by rw [←Nat.pow_add,←Nat.pow_add];congr 1;have:=e74_eq;omega
   calc pm b*2^pe b=od (pm b)*2^tz (pm b)*2^pe b:=by rw [←e]
    _=od (pm b)*2^k*2^e74:=by rw [Nat.mul_assoc,e3,←Nat.mul_assoc]
  rw [e2,Nat.mul_div_cancel _ (Nat.two_pow_pos e74)]
theorem whole_dn {b k:Nat}(h:spN b= -(k:Int)):sg (sgnb b) (od (pm b)/2^k)=whV b:=by
 unfold whV
 congr 1
 rw [rv_pm]
 unfold spN at h
 by_cases h0:pm b=0
 ·rw [h0,od_zero,Nat.zero_mul,Nat.zero_div,Nat.zero_div]
 ·rw [if_neg h0] at h
  obtain⟨e,_,_⟩:=od_split h0 (pm_lt b)
  have e2:pm b*2^pe b=od (pm b)*2^(tz (pm b)+pe b):=by
   rw [Nat.pow_add,←Nat.mul_assoc,←e]
  have e3:(2:Nat)^e74=2^(tz (pm b)+pe b)*2^k:=by rw [←Nat.pow_add];congr 1;have:=e74_eq;omega
  rw [e2,e3,Nat.mul_comm (2^(tz (pm b)+pe b)),Nat.mul_div_mul_right _ _ (Nat.two_pow_pos _)]
theorem spN_bd {b:Nat}(h:fin b): -1074≤spN b∧spN b≤1100:=by
 unfold spN
 have:=pe_le h
 by_cases h0:pm b=0
 ·rw [if_pos h0];omega
 ·rw [if_neg h0];have:=(od_split h0 (pm_lt b)).2.2;omega
theorem od_lt (b:Nat):od (pm b)<9007199254740992:=by
 unfold od;exact Nat.lt_of_le_of_lt (Nat.div_le_self _ _) (pm_lt b)
theorem u64_field {x:Nat}(hx:x≤18446744073709551615) (P:Program) (t:TypeId) (w:World):(binOp .and t (.int .u64 (x:Int)) (.int .u64 2047)).run P w= .ok (.int .u64 ((x%2048:Nat):Int)) w:=u64_mask (x:=x) (d:=11) hx (by decide) P t w
theorem u64_frac {x:Nat}(hx:x≤18446744073709551615) (P:Program) (t:TypeId) (w:World):(binOp .and t (.int .u64 (x:Int)) (.int .u64 4503599627370495)).run P w= .ok (.int .u64 ((x%4503599627370496:Nat):Int)) w:=u64_mask (x:=x) (d:=52) hx (by decide) P t w
theorem u64_or52 {x:Nat}(hx:x<4503599627370496) (P:Program) (t:TypeId) (w:World):(binOp .or t (.int .u64 (x:Int)) (.int .u64 4503599627370496)).run P w= .ok (.int .u64 ((x+4503599627370496:Nat):Int)) w:=by
 have e:=u64_or (x:=x) (y:=4503599627370496) (by omega) (by decide) P t w
 have e2:x||| 4503599627370496=x+4503599627370496:=by
  have h:=or_join (x:=1) (y:=x) (k:=52) hx
  rw [Nat.or_comm,Nat.one_mul] at h
  rw [Nat.add_comm];exact h
 rw [e2] at e;exact e
theorem u64_shr52 {x:Nat}(P:Program) (t:TypeId) (w:World):(binOp .shr t (.int .u64 (x:Int)) (.int .u64 52)).run P w= .ok (.int .u64 ((x/4503599627370496:Nat):Int)) w:=u64_shr (x:=x) (s:=52) (by decide) P t w
theorem u64_shr63 {x:Nat}(P:Program) (t:TypeId) (w:World):(binOp .shr t (.int .u64 (x:Int)) (.int .u64 63)).run P w= .ok (.int .u64 ((x/9223372036854775808:Nat):Int)) w:=u64_shr (x:=x) (s:=63) (by decide) P t w
theorem u64_shr_1 {x:Nat}(P:Program) (t:TypeId) (w:World):(binOp .shr t (.int .u64 (x:Int)) (.int .u64 1)).run P w= .ok (.int .u64 ((x/2:Nat):Int)) w:=u64_shr (x:=x) (s:=1) (by decide) P t w
theorem cb_sgn (b:Nat):cmpB .eql ((b/9223372036854775808:Nat):Int) 1=some (sgnb b):=by
 unfold sgnb
 by_cases h:b/9223372036854775808=1
 ·rw [h,decide_eq_true rfl];rfl
 ·rw [decide_eq_false h];exact eq_f (by omega)
theorem Zr_sg {w:World}{b m n c:Nat}{A:Option Addr}(s:Bool) (h:m≠0) (hn:n=(wd m).length) (ho:Own w b 50 1 A n c ((wd m).map W64)):Zr w b s A n c (sg s m):=by
 cases s
 ·rw [sg_false];exact Zr_nat hn ho
 ·rw [sg_true];exact Zr_neg h hn ho
theorem ln_sg {s:Bool}{m N:Nat}(h:(wd m).length≤N):ln (sg s m)≤N:=by
 cases s
 ·rw [sg_false,ln_nat];exact h
 ·rw [sg_true,ln_neg,ln_nat];exact h
theorem app_Shr {w:World}{A:Option Addr}{m c n b M:Nat}(hb0:b≤w.heap.size) (hx:Wi w A m c M) (hm:m≤1073741824) (hn:n≤1048576):Calls Tryd.prog 64 #[.slice A m c,.int .i64 ((n:Nat):Int)] w (Gv w (T2 (WR b (M/2^n)) (Is (.int .i64 0)))):=by
 obtain⟨xs,h1,rfl⟩:=hx
 refine (nat_Shr h1 (by omega) (by omega)).mono ?_
 rintro e w' ⟨A,n',cap,rfl,h3,_,h4,h5⟩
 exact⟨_,rfl,⟨_,_,rfl,⟨A,n',cap,rfl,h3.out,h4.mono hb0⟩,rfl⟩,h5⟩
end Go.Proofs.YtipklngcpmkfhaaDoor
