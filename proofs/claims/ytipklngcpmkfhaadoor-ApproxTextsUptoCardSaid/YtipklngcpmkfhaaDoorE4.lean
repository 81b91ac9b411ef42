/- Parts Atq, Root, Lw7, Lw7t, Lw7u, joined. -/
import Derived.Test.YtipklngcpmkfhaaDoorE3

namespace Go.Proofs.YtipklngcpmkfhaaDoor
open Go.RowKit
theorem vald_take_le {l:List Nat}(i:Nat):vald 10 ((l.take i).map dv)≤vald 10 (l.map dv):=by
 have h:=vald_append 10 ((l.take i).map dv) ((l.drop i).map dv)
 rw [←List.map_append,List.take_append_drop] at h
 rw [h]
 exact Nat.le_trans (Nat.le_mul_of_pos_right _ (Nat.pow_pos (by decide))) (Nat.le_add_right _ _)
theorem vald_take_step {l:List Nat}{i:Nat}(h:i<l.length) (hd:Digs l):vald 10 ((l.take (i+1)).map dv)=10*vald 10 ((l.take i).map dv)+(l.getD i 0-48):=by
 rw [take_snoc4 h,List.map_append,List.map_cons,List.map_nil,vald_snoc,dv_digit (hd _ (getD_mem0 h))]
 omega
theorem cv_negN {k:Nat}(h:k≤9223372036854775807):Value.int .i64 (IntKind.i64.wrap (0-((k:Nat):Int)))= .int .i64 (-((k:Nat):Int)):=by rw [IntWalk.i64_in _ ⟨by omega,by omega⟩,Int.zero_sub]
set_option maxHeartbeats 4000000 in
theorem g_aexp {w:World}{bs:List Nat}(hbs:∀b,b∈bs→b<256) (hlen:bs.length≤1073741824) (hdg:Digs bs):
    Calls Tryd.prog 56 #[.string (strB bs)] w (fun e w'=>(vald 10 (bs.map dv)≤5000→Gv w (T2 (Is (.int .i64 ((vald 10 (bs.map dv):Nat):Int))) (Is (.bool true))) e w')∧(5000<vald 10 (bs.map dv)→Gv w (T2 (Is (.int .i64 0)) (Is (.bool false))) e w')):=by
 refine sx_enter Tryd.func56 rfl (n:=23) rfl (bq rfl) (args:= [.string (strB bs)]) (cw_keep [(0,.string (strB bs))] ⟨rfl,trivial⟩ (sr (mv 2 rfl (ne_ (sr (mv 1 rfl (ne_ (cw_seq (sr (mv 1 rfl (wl_pureE rfl rfl (v:= .int .i64 (((strB bs).size:Nat):Int)) (v':= .int .i64 ((bs.length:Nat):Int)) (by decide) (by kernel_rfl) (by rw [strB_size]) (mv 1 rfl (wl_nil ?_)))))))))))))
 refine eo_then (cw_block ?_)
 refine cw_loop (T:=World×Nat×Nat)
  (fun⟨wr,i,v⟩=> [(0,.string (strB bs)),(4,.int .i64 ((v:Nat):Int)),(7,.int .i64 ((bs.length:Nat):Int)),(8,.int .i64 ((i:Nat):Int))])
  (fun⟨wr,i,v⟩=>wr)
  (fun⟨wr,i,v⟩=>(Ext w wr)∧(i≤bs.length)∧(v=vald 10 ((bs.take i).map dv))∧(v≤5000))
  (fun⟨wr,i,v⟩=>bs.length-i)
  (⟨w,0,0⟩:World×Nat×Nat) ⟨(Ext.refl w),(Nat.zero_le _),rfl,(by decide)⟩ rfl ⟨rfl,rfl,rfl,rfl,trivial⟩ ?_
 rintro⟨wr,i,v⟩ ⟨hw1,hi,hv,hv5⟩
 refine cw_re [(0,.string (strB bs)),(4,.int .i64 ((v:Nat):Int)),(7,.int .i64 ((bs.length:Nat):Int)),(8,.int .i64 ((i:Nat):Int))] wr rfl ⟨rfl,rfl,rfl,rfl,trivial⟩ (cw_seq ?_)
 by_cases hlt:i<bs.length
 · 
  refine cw_region (wl_cmp rfl rfl rfl true (cb_lt_t (a:=i) (b:=bs.length) rfl rfl (by omega)) (by decide) (ne_ (cw_seq (cw_true rfl (cw_skip (eo_then (cw_seq (cw_block (sr (mv 2 rfl (ne_ (cw_seq ?_))))))))))))
  have hst:=vald_take_step hlt hdg
  have hc:=hdg _ (getD_mem0 hlt)
  refine cw_region (mv 1 rfl (wl_ar rfl rfl rfl ((10*v:Nat):Int) (ai_mul (a:=10) (b:=v) rfl rfl (by omega)) (by decide) (mv 2 rfl (wl_strix (bs:=bs) (i:=i) rfl rfl rfl Tryd.underlying9 hbs (by omega) (by decide) (wl_ar rfl rfl rfl (((bs.getD i 0)-48:Nat):Int) (a8_sub (a:=bs.getD i 0) (b:=48) rfl rfl (by omega) (by omega)) (by decide) (wl_pureE rfl rfl (v:= .int .i64 (IntKind.i64.wrap (((bs.getD i 0)-48:Nat):Int))) (v':= .int .i64 (((bs.getD i 0)-48:Nat):Int)) (by decide) (by kernel_rfl) (cv_i64 (by first | omega | exact hle64)) (wl_ar rfl rfl rfl (((10*v)+((bs.getD i 0)-48):Nat):Int) (ai_add (a:=10*v) (b:=(bs.getD i 0)-48) rfl rfl (by omega)) (by decide) (mv 1 rfl (ne_ (cw_seq ?_))))))))))
  by_cases hgt:(10*v)+((bs.getD i 0)-48)>5000
  · 
   refine cw_region (mv 1 rfl (wl_cmp rfl rfl rfl true (cb_gt_t (a:=(10*v)+((bs.getD i 0)-48)) (b:=5000) rfl rfl (by omega)) (by decide) (ne_ (cw_true rfl (sr (mv 2 rfl (ne_ (cw_ret (eo_block_ret (eo_thenR (eo_loopR (eo_block_ret (eo_thenR ?_)))))))))))))
   refine eo_ret [I0,F0] rfl ⟨rfl,rfl,trivial⟩ ?_
   have hle:=vald_take_le (l:=bs) (i+1)
   exact⟨fun h=>absurd h (by omega),fun _=>⟨_,rfl,⟨_,_,rfl,rfl,rfl⟩,hw1⟩⟩
  · 
   refine cw_region (mv 1 rfl (wl_cmp rfl rfl rfl false (cb_gt_f (a:=(10*v)+((bs.getD i 0)-48)) (b:=5000) rfl rfl (by omega)) (by decide) (ne_ (cw_false rfl (cw_skip (eo_block_normal (eo_then (cw_region (wl_ar rfl rfl rfl ((i+1:Nat):Int) (ai_add (a:=i) (b:=1) rfl rfl (by omega)) (by decide) (mv 1 rfl (wl_nil (eo_round (⟨wr,i+1,10*v+(bs.getD i 0-48)⟩:World×Nat×Nat) ⟨hw1,(by omega),(by rw [hst,hv]),(by omega)⟩ (show bs.length-(i+1)<bs.length-i by omega) rfl ⟨rfl,rfl,rfl,rfl,trivial⟩))))))))))))
 · 
  have hie:i=bs.length:=by omega
  rw [hie,List.take_length] at hv
  refine cw_region (wl_cmp rfl rfl rfl false (cb_lt_f (a:=i) (b:=bs.length) rfl rfl (by omega)) (by decide) (ne_ (cw_seq (cw_false rfl (cw_exit (eo_thenX (eo_loopX (eo_block_here (eo_then (sr (mv 3 rfl (ne_ (cw_ret ?_)))))))))))))
  refine eo_ret [.int .i64 ((v:Nat):Int),.bool true] rfl ⟨rfl,rfl,trivial⟩ ?_
  exact⟨fun _=>⟨_,rfl,⟨_,_,rfl,(show Value.int .i64 ((v:Nat):Int)=_ by rw [hv]),rfl⟩,hw1⟩,fun h=>absurd hv5 (by omega)⟩
set_option maxHeartbeats 4000000 in
theorem g_aten {w:World}{n b:Nat}(hb:b≤w.heap.size) (hn:n≤68719476736):
    Calls Tryd.prog 58 #[.int .i64 ((n:Nat):Int)] w (Gv w (WR b (10^n))):=by
 refine sx_enter Tryd.func58 rfl (n:=20) rfl (bq rfl) (args:= [.int .i64 ((n:Nat):Int)]) (cw_keep [(0,.int .i64 ((n:Nat):Int))] ⟨rfl,trivial⟩ (sr (mv 1 rfl (ne_ (sr (wl_bslice rfl rfl (by decide) (k:=1) (e:=50) [.int .u64 1] (fun _=>by kernel_rfl) fun g1 v2 nb3=>?_))))))
 have o4:=O1.mk_ (x:=1) (b:=w.heap.size) nb3 (Ext.refl w).size
 have e5:=nb3.ext
 have hw1:=(Ext.refl w).trans e5
 have o7:=own1_wd o4 (show 1≤18446744073709551615 by decide) (show 1≠0 by decide)
 have j6:=len1 (show 1≤18446744073709551615 by decide) (show 1≠0 by decide)
 refine wl_bslice rfl rfl (by decide) (k:=1) (e:=50) [.int .u64 10] (fun _=>by kernel_rfl) fun g8 v9 nb10=>?_
 have o11:=O1.mk_ (x:=10) (b:=w.heap.size) nb10 hw1.size
 have e12:=nb10.ext
 have hw2:=hw1.trans e12
 have o14:=own1_wd o11 (show 10≤18446744073709551615 by decide) (show 10≠0 by decide)
 have j13:=len1 (show 10≤18446744073709551615 by decide) (show 10≠0 by decide)
 refine mv 2 rfl (ne_ (cw_seq (cw_block ?_)))
 refine cw_loop (T:=World×Nat×Nat×Nat×Option Addr×Nat×Nat×Option Addr×Nat×Nat)
  (fun⟨wr,e,p,b,PA,pn,pc,BA,bn,bc⟩=> [(0,.int .i64 ((e:Nat):Int)),(3,.slice PA pn pc),(4,.slice BA bn bc)])
  (fun⟨wr,e,p,b,PA,pn,pc,BA,bn,bc⟩=>wr)
  (fun⟨wr,e,p,b,PA,pn,pc,BA,bn,bc⟩=>(Ext w wr)∧(p*b^e=10^n)∧(1≤p)∧(1≤b)∧(pn=(wd p).length)∧(bn=(wd b).length)∧(Own wr w.heap.size 50 1 PA pn pc ((wd p).map W64))∧(Own wr w.heap.size 50 1 BA bn bc ((wd b).map W64))∧(e≤n))
  (fun⟨wr,e,p,b,PA,pn,pc,BA,bn,bc⟩=>e)
  (⟨v9,n,1,10,(some ⟨g1,0,none⟩),1,1,(some ⟨g8,0,none⟩),1,1⟩:World×Nat×Nat×Nat×Option Addr×Nat×Nat×Option Addr×Nat×Nat) ⟨hw2,(by rw [Nat.one_mul]),(by decide),(by decide),j6,j13,(o7.ext e12),o14,(Nat.le_refl _)⟩ rfl ⟨rfl,rfl,rfl,trivial⟩ ?_
 rintro⟨wr,e,p,b,PA,pn,pc,BA,bn,bc⟩ ⟨hw1,hI,hp1,hb1,hpn,hbn,hpo,hbo,he⟩
 refine cw_re [(0,.int .i64 ((e:Nat):Int)),(3,.slice PA pn pc),(4,.slice BA bn bc)] wr rfl ⟨rfl,rfl,rfl,trivial⟩ (cw_seq (cw_seq ?_))
 by_cases he0:e>0
 · 
  have hpK:=Nat.le_trans (len_wd_mono (pw_p hI hb1)) (len_pow36 (n:=n) (by decide))
  have hbK:=Nat.le_trans (len_wd_mono (pw_b hI hp1 hb1 he0)) (len_pow36 (n:=n) (by decide))
  refine cw_region (mv 1 rfl (wl_cmp rfl rfl rfl true (cb_gt_t (a:=e) (b:=0) rfl rfl (by omega)) (by decide) (ne_ (cw_true rfl (cw_skip (eo_then (cw_seq (cw_block (cw_seq (cw_seq ?_))))))))))
  by_cases ho:e%2=1
  · 
   refine cw_region (mv 1 rfl (wl_ar rfl rfl rfl ((e%2:Nat):Int) (au_rem (a:=e) (b:=2) rfl rfl (by omega)) (by decide) (wl_cmp rfl rfl rfl true (cb_eq_t (a:=e%2) (b:=1) rfl rfl (by omega)) (by decide) (ne_ (cw_true rfl (cw_region (mv 2 rfl (cl (vs:= [.slice PA pn pc,.slice BA bn bc]) hw1 (rx_MulW hw1.size hpo.wi hbo.wi (by omega)) rfl (by kernel_rfl) fun xr17 v15 r17 e16 hw2=>?_))))))))
   obtain⟨A18,n18,c18,rfl,j18,o18⟩:=r17
   refine mv 1 rfl (ne_ (cw_region (mv 1 rfl (cl (vs:= [.slice BA bn bc]) hw2 (rx_Square hw2.size (hbo.ext e16).wi (by omega)) rfl (by kernel_rfl) fun xr21 v19 r21 e20 hw3=>?_))))
   obtain⟨A22,n22,c22,rfl,j22,o22⟩:=r21
   refine mv 1 rfl (wl_nil (eo_block_normal (eo_then (cw_region (mv 1 rfl (wl_ar rfl rfl rfl ((e/2:Nat):Int) (ai_quo (a:=e) (b:=2) rfl rfl (by omega) (by omega)) (by decide) (mv 1 rfl (wl_nil (eo_round (⟨v19,e/2,p*b,b*b,A18,n18,c18,A22,n22,c22⟩:World×Nat×Nat×Nat×Option Addr×Nat×Nat×Option Addr×Nat×Nat) ⟨hw3,(by rw [pw_odd ho];exact hI),(Nat.mul_pos hp1 hb1),(Nat.mul_pos hb1 hb1),j18,j22,(o18.ext e20),o22,(Nat.le_trans (Nat.div_le_self _ _) he)⟩ (Nat.div_lt_self he0 (by decide)) rfl ⟨rfl,rfl,rfl,trivial⟩)))))))))
  · 
   refine cw_region (mv 1 rfl (wl_ar rfl rfl rfl ((e%2:Nat):Int) (au_rem (a:=e) (b:=2) rfl rfl (by omega)) (by decide) (wl_cmp rfl rfl rfl false (cb_eq_f (a:=e%2) (b:=1) rfl rfl (by omega)) (by decide) (ne_ (cw_false rfl (cw_skip (eo_then (cw_region (mv 1 rfl (cl (vs:= [.slice BA bn bc]) hw1 (rx_Square hw1.size hbo.wi (by omega)) rfl (by kernel_rfl) fun xr25 v23 r25 e24 hw2=>?_))))))))))
   obtain⟨A26,n26,c26,rfl,j26,o26⟩:=r25
   refine mv 1 rfl (wl_nil (eo_block_normal (eo_then (cw_region (mv 1 rfl (wl_ar rfl rfl rfl ((e/2:Nat):Int) (ai_quo (a:=e) (b:=2) rfl rfl (by omega) (by omega)) (by decide) (mv 1 rfl (wl_nil (eo_round (⟨v23,e/2,p,b*b,PA,pn,pc,A26,n26,c26⟩:World×Nat×Nat×Nat×Option Addr×Nat×Nat×Option Addr×Nat×Nat) ⟨hw2,(by rw [pw_even ho];exact hI),hp1,(Nat.mul_pos hb1 hb1),hpn,j26,(hpo.ext e24),o26,(Nat.le_trans (Nat.div_le_self _ _) he)⟩ (Nat.div_lt_self he0 (by decide)) rfl ⟨rfl,rfl,rfl,trivial⟩)))))))))
 · 
  refine cw_region (mv 1 rfl (wl_cmp rfl rfl rfl false (cb_gt_f (a:=e) (b:=0) rfl rfl (by omega)) (by decide) (ne_ (cw_false rfl (cw_exit (eo_thenX (eo_loopX (eo_block_here (eo_then (sr (mv 2 rfl (ne_ (cw_ret ?_)))))))))))))
  refine eo_ret [.slice PA pn pc] rfl ⟨rfl,trivial⟩ ?_
  have e0:e=0:=by omega
  subst e0
  rw [Nat.pow_zero,Nat.mul_one] at hI
  subst hI
  exact⟨_,rfl,⟨_,_,_,rfl,hpn,(hpo).mono hb⟩,hw1⟩
theorem g_nearest_v {w:World}{A:Option Addr}{n c X:Nat}(hX:Wi w A n c X) (hXn:n≤67108864){B:Option Addr}{n' c' D nb:Nat}(hD:Wi w B n' c' D) (hDn:n'≤67108864) (hD0:0<D) (h:nearB (X*2^e74) D=nb):
  Calls Tryd.prog 60 #[.slice A n c,.slice B n' c'] w (Gv w (Is (.float .f64 nb))):=by
 subst h
 exact g_nearest hX hXn hD hDn hD0
def nrX (m bh x:Nat) (dn:Bool):Nat:=if dn=false∧bh≤x then nearB (m*10^(x-bh)*2^e74) 1 else nearB (m*2^e74) (10^(if dn=true then x+bh else bh-x))
def rdR (bs:List Nat):Nat×Int:=if 4096<bs.length then (0,5) else match cutF bs with
 | none=>(0,7)
 | some x=>if 5000<vald 10 (x.2.2.2.map dv) then (0,5) else (sgB (sgT bs) (nrX (vald 10 (x.1.map dv)) x.2.1 (vald 10 (x.2.2.2.map dv)) x.2.2.1),0)
theorem rdR_long {bs:List Nat}(h:4096<bs.length):rdR bs=(0,5):=by unfold rdR;rw [if_pos h]
theorem rdR_none {bs:List Nat}(h:¬4096<bs.length) (hc:cutF bs=none):rdR bs=(0,7):=by unfold rdR;rw [if_neg h,hc]
theorem rdR_big {bs dg pw:List Nat}{bh:Nat}{dn:Bool}(h:¬4096<bs.length) (hc:cutF bs=some (dg,bh,dn,pw)) (h5:5000<vald 10 (pw.map dv)):rdR bs=(0,5):=by unfold rdR;rw [if_neg h,hc];exact if_pos h5
theorem rdR_ok {bs dg pw:List Nat}{bh X V nb:Nat}{dn:Bool}(h:¬4096<bs.length) (hc:cutF bs=some (dg,bh,dn,pw)) (hV:vald 10 (pw.map dv)=V) (h5:¬5000<V) (hX:vald 10 (dg.map dv)=X) (hn:nrX X bh V dn=nb):rdR bs=(sgB (sgT bs) nb,0):=by
 unfold rdR;rw [if_neg h,hc]
 show (if 5000<vald 10 (pw.map dv) then _ else (sgB (sgT bs) (nrX (vald 10 (dg.map dv)) bh (vald 10 (pw.map dv)) dn),(0:Int)))=_
 rw [hV,hX,if_neg h5,hn]
set_option maxHeartbeats 4000000 in
theorem g_aread {w:World}{bs:List Nat}(hbs:∀b,b∈bs→b<256) (hlen:bs.length≤1099511627776):
    Calls Tryd.prog 28 #[.string (strB bs)] w (Gv w (T2 (Is (.float .f64 (rdR bs).1)) (Is (.int .i64 (rdR bs).2)))):=by
 refine sx_enter Tryd.func28 rfl (n:=58) rfl (bq rfl) (args:= [.string (strB bs)]) (cw_keep [(0,.string (strB bs))] ⟨rfl,trivial⟩ (sr (mv 2 rfl (ne_ (cw_seq (cw_seq ?_))))))
 by_cases hlong:bs.length>4096
 · 
  refine cw_region (mv 1 rfl (wl_pureE rfl rfl (v:= .int .i64 (((strB bs).size:Nat):Int)) (v':= .int .i64 ((bs.length:Nat):Int)) (by decide) (by kernel_rfl) (by rw [strB_size]) (wl_cmp rfl rfl rfl true (cb_gt_t (a:=bs.length) (b:=4096) rfl rfl (by omega)) (by decide) (ne_ (cw_true rfl (sr (mv 2 rfl (ne_ (cw_ret (eo_thenR (eo_ret [.float .f64 0,.int .i64 5] rfl ⟨rfl,rfl,trivial⟩ ?_)))))))))))
  have hr:=rdR_long hlong
  exact⟨_,rfl,⟨_,_,rfl,(show Value.float .f64 _=_ by rw [hr]),(show Value.int .i64 _=_ by rw [hr])⟩,(Ext.refl w)⟩
 · 
  refine cw_region (mv 1 rfl (wl_pureE rfl rfl (v:= .int .i64 (((strB bs).size:Nat):Int)) (v':= .int .i64 ((bs.length:Nat):Int)) (by decide) (by kernel_rfl) (by rw [strB_size]) (wl_cmp rfl rfl rfl false (cb_gt_f (a:=bs.length) (b:=4096) rfl rfl (by omega)) (by decide) (ne_ (cw_false rfl (cw_skip (eo_then (cw_seq ?_))))))))
  rcases hcut:cutF bs with _ | ⟨dg,bh,dn,pw⟩
  · 
   refine cw_region (mv 1 rfl (wl_call rfl rfl (vs:= [.string (strB bs)]) (by kernel_rfl) (by decide) (g_acut_bad hbs (by omega) hcut) ?_))
   rintro _ v1 ⟨ng4,dg5,bh6,dn7,pw8,p9,xr3,rfl,r3,e2⟩
   refine ret_intro ?_
   have hw1:=(Ext.refl w).trans e2
   obtain rfl:=r3
   refine mv 1 rfl (pu (v:= .agg #[.bool ng4,.string (strB dg5),.int .i64 ((bh6:Nat):Int),.bool dn7,.string (strB pw8)]) rfl (by kernel_rfl) (pu (v:= .bool false) rfl (by kernel_rfl) (al [F0,.string (strB []),I0,F0,.string (strB [])] hw1 (fun _=>by kernel_rfl) rfl fun g10 v11 hb13 ge14 e12 hw2=>(so aggDec hb13 [.bool ng4,.string (strB dg5),.int .i64 ((bh6:Nat):Int),.bool dn7,.string (strB pw8)] hw2 ge14 rfl rfl rfl rfl fun v15 hb17 u18 hw3=>(mv 1 rfl (ne_ (cw_seq (sr (mv 1 rfl (pu (v:= .bool true) rfl (by kernel_rfl) (ne_ (cw_true rfl (cw_seq ?_)))))))))))))
   refine cw_region (mv 2 rfl (ne_ (cw_ret (eo_thenR (eo_ret [.float .f64 0,.int .i64 7] rfl ⟨rfl,rfl,trivial⟩ ?_)))))
   have hr:=rdR_none hlong hcut
   exact⟨_,rfl,⟨_,_,rfl,(show Value.float .f64 _=_ by rw [hr]),(show Value.int .i64 _=_ by rw [hr])⟩,hw3⟩
  · 
   obtain⟨hdg,hdg0,hpw,hbh,hdgl,hpwl⟩:=cutF_digs hcut
   have hdg256:∀b,b∈dg→b<256:=fun b hb=>by have:=hdg b hb;omega
   have hpw256:∀b,b∈pw→b<256:=fun b hb=>by have:=hpw b hb;omega
   obtain⟨X,hX⟩:∃X,vald 10 (dg.map dv)=X:=⟨_,rfl⟩
   obtain⟨V,hV⟩:∃V,vald 10 (pw.map dv)=V:=⟨_,rfl⟩
   have hXl:(wd X).length≤4096:=by rw [←hX];exact Nat.le_trans (len_wd_dv (by decide) (by decide) (hdg.good hdg0).2) (by omega)
   refine cw_region (mv 1 rfl (cl (vs:= [.string (strB bs)]) (Ext.refl w) (g_acut hbs (by omega) hcut) rfl (by kernel_rfl) fun xr22 v20 r22 e21 hw1=>?_))
   obtain rfl:=r22
   refine mv 1 rfl (pu (v:= .agg #[.bool (sgT bs),.string (strB dg),.int .i64 ((bh:Nat):Int),.bool dn,.string (strB pw)]) rfl (by kernel_rfl) (pu (v:= .bool true) rfl (by kernel_rfl) (al [F0,.string (strB []),I0,F0,.string (strB [])] hw1 (fun _=>by kernel_rfl) rfl fun g23 v24 hb26 ge27 e25 hw2=>(so aggDec hb26 [.bool (sgT bs),.string (strB dg),.int .i64 ((bh:Nat):Int),.bool dn,.string (strB pw)] hw2 ge27 rfl rfl rfl rfl fun v28 hb30 u31 hw3=>(mv 1 rfl (ne_ (cw_seq (sr (mv 1 rfl (pu (v:= .bool false) rfl (by kernel_rfl) (ne_ (cw_false rfl (cw_skip ?_)))))))))))))
   refine eo_then (cw_seq ?_)
   by_cases h5:5000<V
   · 
    refine cw_region (pf g23 4 rfl (by kernel_rfl) (wl_load rfl rfl (load_cell (fun _=>by kernel_rfl) hb30 rfl) (by decide) (cl (vs:= [.string (strB pw)]) hw3 ((g_aexp hpw256 (by omega) hpw).mono fun e w' h=>h.2 (by rw [hV];exact h5)) rfl (by kernel_rfl) fun xr35 v33 r35 e34 hw4=>?_)))
    obtain⟨_,_,rfl,rfl,rfl⟩:=r35
    refine mv 1 rfl (pu (v:= .int .i64 0) rfl (by kernel_rfl) (pu (v:= .bool false) rfl (by kernel_rfl) (mv 2 rfl (ne_ (cw_seq (sr (mv 1 rfl (pu (v:= .bool true) rfl (by kernel_rfl) (ne_ (cw_true rfl (sr (mv 2 rfl (wl_nil ?_)))))))))))))
    refine eo_then (cw_ret (eo_thenR (eo_ret [.float .f64 0,.int .i64 5] rfl ⟨rfl,rfl,trivial⟩ ?_)))
    have hr:=rdR_big hlong hcut (by rw [hV];exact h5)
    exact⟨_,rfl,⟨_,_,rfl,(show Value.float .f64 _=_ by rw [hr]),(show Value.int .i64 _=_ by rw [hr])⟩,hw4⟩
   · 
    refine cw_region (pf g23 4 rfl (by kernel_rfl) (wl_load rfl rfl (load_cell (fun _=>by kernel_rfl) hb30 rfl) (by decide) (cl (vs:= [.string (strB pw)]) hw3 ((g_aexp hpw256 (by omega) hpw).mono fun e w' h=>by have h2:=h.1 (by rw [hV];omega);rw [hV] at h2;exact h2) rfl (by kernel_rfl) fun xr39 v37 r39 e38 hw4=>?_)))
    obtain⟨_,_,rfl,rfl,rfl⟩:=r39
    refine mv 1 rfl (pu (v:= .int .i64 ((V:Nat):Int)) rfl (by kernel_rfl) (pu (v:= .bool true) rfl (by kernel_rfl) (mv 2 rfl (ne_ (cw_seq (sr (mv 1 rfl (pu (v:= .bool false) rfl (by kernel_rfl) (ne_ (cw_false rfl (cw_skip (eo_then (cw_seq ?_)))))))))))))
    refine cw_seq ?_
    cases dn
    · 
     refine cw_region (pf g23 3 rfl (by kernel_rfl) (wl_load rfl rfl (load_cell (fun _=>by kernel_rfl) (hb30.ext e38) rfl) (by decide) (ne_ (cw_false rfl (cw_skip (eo_then (sr (mv 1 rfl (pf g23 2 rfl (by kernel_rfl) (wl_load rfl rfl (load_cell (fun _=>by kernel_rfl) (hb30.ext e38) rfl) (by decide) (wl_ar rfl rfl rfl (((V:Nat):Int)-((bh:Nat):Int)) (ar_i64s rfl (by omega) (by omega)) (by decide) (mv 1 rfl (wl_nil ?_)))))))))))))
     refine eo_then (sr (pf g23 1 rfl (by kernel_rfl) (wl_load rfl rfl (load_cell (fun _=>by kernel_rfl) (hb30.ext e38) rfl) (by decide) (wl_call rfl rfl (vs:= [.string (strB dg)]) (by kernel_rfl) (by decide) (by have h:=rx_ReadDec_good (w:=v37) hdg256 (by omega) (hdg.good hdg0);rw [hX] at h;exact h.mono (Gv.imp (T2.imp (WR.imp hw4.size) Is.imp))) ?_))))
     rintro _ v41 ⟨xr43,rfl,r43,e42⟩
     refine ret_intro ?_
     have hw5:=hw4.trans e42
     obtain⟨_,_,rfl,⟨A45,n45,c45,rfl,j45,o45⟩,rfl⟩:=r43
     refine mv 1 rfl (pu (v:= .slice A45 n45 c45) rfl (by kernel_rfl) (pu (v:= .int .i64 0) rfl (by kernel_rfl) (mv 2 rfl (ne_ (sr (wl_bslice rfl rfl (by decide) (k:=1) (e:=50) [.int .u64 1] (fun _=>by kernel_rfl) fun g46 v47 nb48=>?_))))))
     have o49:=O1.mk_ (x:=1) (b:=w.heap.size) nb48 hw5.size
     have e50:=nb48.ext
     have hw6:=hw5.trans e50
     have o52:=own1_wd o49 (show 1≤18446744073709551615 by decide) (show 1≠0 by decide)
     have j51:=len1 (show 1≤18446744073709551615 by decide) (show 1≠0 by decide)
     refine mv 1 rfl (ne_ (cw_seq (cw_seq ?_)))
     by_cases hz:bh≤V
     · 
      refine cw_keep [(0,.string (strB bs)),(2,.float .f64 0),(3,.int .i64 0),(10,.string (strB bs)),(11,.int .i64 ((bs.length:Nat):Int)),(12,.bool false),(14,.string (strB bs)),(15,.tuple #[.agg #[.bool (sgT bs),.string (strB dg),.int .i64 ((bh:Nat):Int),F0,.string (strB pw)],.bool true]),(13,.tuple #[.agg #[.bool (sgT bs),.string (strB dg),.int .i64 ((bh:Nat):Int),F0,.string (strB pw)],.bool true]),(16,.agg #[.bool (sgT bs),.string (strB dg),.int .i64 ((bh:Nat):Int),F0,.string (strB pw)]),(17,.bool true),(4,.pointer (some ⟨g23,0,none⟩)),(5,.bool true),(18,.bool true),(19,.bool false),(21,.pointer (some ⟨g23,4,none⟩)),(22,.string (strB pw)),(23,.tuple #[.int .i64 ((V:Nat):Int),.bool true]),(20,.tuple #[.int .i64 ((V:Nat):Int),.bool true]),(24,.int .i64 ((V:Nat):Int)),(25,.bool true),(6,.int .i64 (((V:Nat):Int)-((bh:Nat):Int))),(26,.bool true),(27,.bool false),(28,.pointer (some ⟨g23,3,none⟩)),(29,.bool false),(32,.int .i64 ((V:Nat):Int)),(33,.pointer (some ⟨g23,2,none⟩)),(34,.int .i64 ((bh:Nat):Int)),(35,.int .i64 (((V:Nat):Int)-((bh:Nat):Int))),(37,.pointer (some ⟨g23,1,none⟩)),(38,.string (strB dg)),(39,.tuple #[.slice A45 n45 c45,I0]),(36,.tuple #[.slice A45 n45 c45,I0]),(40,.slice A45 n45 c45),(41,.int .i64 0),(7,.slice A45 n45 c45),(8,.int .i64 0),(42,.slice (some ⟨g46,0,none⟩) 1 1),(9,.slice (some ⟨g46,0,none⟩) 1 1)] ⟨rfl,rfl,rfl,rfl,rfl,rfl,rfl,rfl,rfl,rfl,rfl,rfl,rfl,rfl,rfl,rfl,rfl,rfl,rfl,rfl,rfl,rfl,rfl,rfl,rfl,rfl,rfl,rfl,rfl,rfl,rfl,rfl,rfl,rfl,rfl,rfl,rfl,rfl,rfl,rfl,trivial⟩ ?_
      rw [show (((V:Nat):Int)-((bh:Nat):Int))=((V-bh:Nat):Int) by omega]
      have h10:(wd (10^(V-bh))).length≤(V-bh)+1:=len_pow36 (by decide)
      refine cw_region (mv 1 rfl (wl_cmp rfl rfl rfl true (cb_ge_t (a:=V-bh) (b:=0) rfl rfl (by omega)) (by decide) (ne_ (cw_true rfl (cw_region (mv 2 rfl (cl (vs:= [.int .i64 ((V-bh:Nat):Int)]) hw6 (g_aten (n:=V-bh) hw6.size (by omega)) rfl (by kernel_rfl) fun xr55 v53 r55 e54 hw7=>?_)))))))
      obtain⟨A56,n56,c56,rfl,j56,o56⟩:=r55
      refine cl (vs:= [.slice A45 n45 c45,.slice A56 n56 c56]) hw7 (rx_MulW hw7.size (o45.ext (e50.trans e54)).wi o56.wi (by omega)) rfl (by kernel_rfl) fun xr59 v57 r59 e58 hw8=>?_
      obtain⟨A60,n60,c60,rfl,j60,o60⟩:=r59
      refine mv 1 rfl (ne_ (cw_seq ?_))
      have hXM:(wd (X*10^(V-bh))).length≤20000:=by have:=len_wd_mul X (10^(V-bh));omega
      obtain⟨nb,hnb⟩:∃nb,nearB ((X*10^(V-bh))*2^e74) 1=nb:=⟨_,rfl⟩
      have hnbl:nb≤9218868437227405312:=hnb▸nearB_le _ _
      have hrd:=rdR_ok (nb:=nb) hlong hcut hV h5 hX (by unfold nrX;rw [if_pos ⟨rfl,hz⟩];exact hnb)
      refine cw_draw mix 6 [] [Is (.pointer (some ⟨g23,0,none⟩)),Is (.bool (sgT bs)),Is (.slice A60 n60 c60),Is (.slice (some ⟨g46,0,none⟩) 1 1),Is (.float .f64 nb),Is (.float .f64 (sgB (sgT bs) nb))] [[],[0],[],[],[2,3],[1,4]] [[],[0],[],[],[2,3],[0,1,2,3,4],[0,1,2,3,4,5],[0,1,2,3,4,5,6]] rfl
       (obs_cons rfl rfl (hob rfl rfl ?_) (obs_cons rfl rfl (hob rfl rfl ?_) (obs_cons rfl rfl (hob rfl rfl ?_) (obs_cons rfl rfl (hob rfl rfl ?_) (obs_cons rfl rfl (hob rfl rfl ?_) (obs_cons rfl rfl (hob rfl rfl ?_) obs_nil)))))) ?_
      · 
       exact fun _ _=>deps_nil (pf g23 0 rfl (by kernel_rfl) (pi_done rfl (Ext.refl _) rfl))
      · 
       exact fun _ e64=>dk rfl rfl (deps_nil (wl_load rfl rfl (load_cell (fun _=>by kernel_rfl) (hb30.ext (e38.trans (e42.trans (e50.trans (e54.trans (e58.trans e64)))))) rfl) (by decide) (pi_done rfl (Ext.refl _) rfl)))
      · 
       exact fun _ _=>deps_nil (mv 1 rfl (pi_done rfl (Ext.refl _) rfl))
      · 
       exact fun _ _=>deps_nil (mv 1 rfl (pi_done rfl (Ext.refl _) rfl))
      · 
       intro v74 e75
       have hw9:=hw8.trans e75
       refine dk rfl rfl (dk rfl rfl (deps_nil (cl (vs:= [.slice A60 n60 c60,.slice (some ⟨g46,0,none⟩) 1 1]) hw9 (g_nearest_v (o60.ext e75).wi (by omega) (o52.ext (e54.trans (e58.trans e75))).wi (by omega) (by decide) hnb) rfl (by kernel_rfl) fun xr88 v86 r88 e87 hw10=>?_)))
       obtain rfl:=r88
       exact pi_done rfl e87 rfl
      · 
       intro v89 e90
       have hw9:=hw8.trans e90
       refine dk rfl rfl (dk rfl rfl (deps_nil (cl (vs:= [.bool (sgT bs),.float .f64 nb]) hw9 (g_signed hnbl) rfl (by kernel_rfl) fun xr103 v101 r103 e102 hw10=>?_)))
       obtain rfl:=r103
       exact pi_done rfl e102 rfl
      · 
       intro v104 e105
       have hw9:=hw8.trans e105
       refine dk rfl rfl (dk rfl rfl (dk rfl rfl (dk rfl rfl (dk rfl rfl (dk rfl rfl (deps_nil (mv 2 rfl (wl_nil (eo_np (eo_then (cw_ret (eo_ret [.float .f64 (sgB (sgT bs) nb),I0] rfl ⟨rfl,rfl,trivial⟩ ?_))))))))))))
       have hr:=hrd
       exact⟨_,rfl,⟨_,_,rfl,(show Value.float .f64 _=_ by rw [hr]),(show Value.int .i64 _=_ by rw [hr])⟩,hw9⟩
     · 
      refine cw_keep [(0,.string (strB bs)),(2,.float .f64 0),(3,.int .i64 0),(10,.string (strB bs)),(11,.int .i64 ((bs.length:Nat):Int)),(12,.bool false),(14,.string (strB bs)),(15,.tuple #[.agg #[.bool (sgT bs),.string (strB dg),.int .i64 ((bh:Nat):Int),F0,.string (strB pw)],.bool true]),(13,.tuple #[.agg #[.bool (sgT bs),.string (strB dg),.int .i64 ((bh:Nat):Int),F0,.string (strB pw)],.bool true]),(16,.agg #[.bool (sgT bs),.string (strB dg),.int .i64 ((bh:Nat):Int),F0,.string (strB pw)]),(17,.bool true),(4,.pointer (some ⟨g23,0,none⟩)),(5,.bool true),(18,.bool true),(19,.bool false),(21,.pointer (some ⟨g23,4,none⟩)),(22,.string (strB pw)),(23,.tuple #[.int .i64 ((V:Nat):Int),.bool true]),(20,.tuple #[.int .i64 ((V:Nat):Int),.bool true]),(24,.int .i64 ((V:Nat):Int)),(25,.bool true),(6,.int .i64 (((V:Nat):Int)-((bh:Nat):Int))),(26,.bool true),(27,.bool false),(28,.pointer (some ⟨g23,3,none⟩)),(29,.bool false),(32,.int .i64 ((V:Nat):Int)),(33,.pointer (some ⟨g23,2,none⟩)),(34,.int .i64 ((bh:Nat):Int)),(35,.int .i64 (((V:Nat):Int)-((bh:Nat):Int))),(37,.pointer (some ⟨g23,1,none⟩)),(38,.string (strB dg)),(39,.tuple #[.slice A45 n45 c45,I0]),(36,.tuple #[.slice A45 n45 c45,I0]),(40,.slice A45 n45 c45),(41,.int .i64 0),(7,.slice A45 n45 c45),(8,.int .i64 0),(42,.slice (some ⟨g46,0,none⟩) 1 1),(9,.slice (some ⟨g46,0,none⟩) 1 1)] ⟨rfl,rfl,rfl,rfl,rfl,rfl,rfl,rfl,rfl,rfl,rfl,rfl,rfl,rfl,rfl,rfl,rfl,rfl,rfl,rfl,rfl,rfl,rfl,rfl,rfl,rfl,rfl,rfl,rfl,rfl,rfl,rfl,rfl,rfl,rfl,rfl,rfl,rfl,rfl,rfl,trivial⟩ ?_
      rw [show (((V:Nat):Int)-((bh:Nat):Int))=(-((bh-V:Nat):Int)) by omega]
      have h10:(wd (10^(bh-V))).length≤(bh-V)+1:=len_pow36 (by decide)
      refine cw_region (mv 1 rfl (wl_cmp rfl rfl rfl false (ge_f (by omega)) (by decide) (ne_ (cw_false rfl (cw_region (mv 1 rfl (wl_pureE rfl rfl (v:= .int .i64 (IntKind.i64.wrap (0- -((bh-V:Nat):Int)))) (v':= .int .i64 ((bh-V:Nat):Int)) (by decide) (by kernel_rfl) (cv_neg (by omega)) (cl (vs:= [.int .i64 ((bh-V:Nat):Int)]) hw6 (g_aten (n:=bh-V) hw6.size (by omega)) rfl (by kernel_rfl) fun xr138 v136 r138 e137 hw7=>?_))))))))
      obtain⟨A139,n139,c139,rfl,j139,o139⟩:=r138
      refine mv 1 rfl (ne_ (cw_seq ?_))
      obtain⟨nb,hnb⟩:∃nb,nearB (X*2^e74) (10^(bh-V))=nb:=⟨_,rfl⟩
      have hnbl:nb≤9218868437227405312:=hnb▸nearB_le _ _
      have hrd:=rdR_ok (nb:=nb) hlong hcut hV h5 hX (by unfold nrX;rw [if_neg (fun h=>hz h.2),if_neg (by decide)];exact hnb)
      refine cw_draw mix 6 [] [Is (.pointer (some ⟨g23,0,none⟩)),Is (.bool (sgT bs)),Is (.slice A45 n45 c45),Is (.slice A139 n139 c139),Is (.float .f64 nb),Is (.float .f64 (sgB (sgT bs) nb))] [[],[0],[],[],[2,3],[1,4]] [[],[0],[],[],[2,3],[0,1,2,3,4],[0,1,2,3,4,5],[0,1,2,3,4,5,6]] rfl
       (obs_cons rfl rfl (hob rfl rfl ?_) (obs_cons rfl rfl (hob rfl rfl ?_) (obs_cons rfl rfl (hob rfl rfl ?_) (obs_cons rfl rfl (hob rfl rfl ?_) (obs_cons rfl rfl (hob rfl rfl ?_) (obs_cons rfl rfl (hob rfl rfl ?_) obs_nil)))))) ?_
      · 
       exact fun _ _=>deps_nil (pf g23 0 rfl (by kernel_rfl) (pi_done rfl (Ext.refl _) rfl))
      · 
       exact fun _ e143=>dk rfl rfl (deps_nil (wl_load rfl rfl (load_cell (fun _=>by kernel_rfl) (hb30.ext (e38.trans (e42.trans (e50.trans (e137.trans e143))))) rfl) (by decide) (pi_done rfl (Ext.refl _) rfl)))
      · 
       exact fun _ _=>deps_nil (mv 1 rfl (pi_done rfl (Ext.refl _) rfl))
      · 
       exact fun _ _=>deps_nil (mv 1 rfl (pi_done rfl (Ext.refl _) rfl))
      · 
       intro v153 e154
       have hw8:=hw7.trans e154
       refine dk rfl rfl (dk rfl rfl (deps_nil (cl (vs:= [.slice A45 n45 c45,.slice A139 n139 c139]) hw8 (g_nearest_v (o45.ext (e50.trans (e137.trans e154))).wi (by omega) (o139.ext e154).wi (by omega) (Nat.pow_pos (by decide)) hnb) rfl (by kernel_rfl) fun xr167 v165 r167 e166 hw9=>?_)))
       obtain rfl:=r167
       exact pi_done rfl e166 rfl
      · 
       intro v168 e169
       have hw8:=hw7.trans e169
       refine dk rfl rfl (dk rfl rfl (deps_nil (cl (vs:= [.bool (sgT bs),.float .f64 nb]) hw8 (g_signed hnbl) rfl (by kernel_rfl) fun xr182 v180 r182 e181 hw9=>?_)))
       obtain rfl:=r182
       exact pi_done rfl e181 rfl
      · 
       intro v183 e184
       have hw8:=hw7.trans e184
       refine dk rfl rfl (dk rfl rfl (dk rfl rfl (dk rfl rfl (dk rfl rfl (dk rfl rfl (deps_nil (mv 2 rfl (wl_nil (eo_np (eo_then (cw_ret (eo_ret [.float .f64 (sgB (sgT bs) nb),I0] rfl ⟨rfl,rfl,trivial⟩ ?_))))))))))))
       have hr:=hrd
       exact⟨_,rfl,⟨_,_,rfl,(show Value.float .f64 _=_ by rw [hr]),(show Value.int .i64 _=_ by rw [hr])⟩,hw8⟩
    · 
     refine cw_region (pf g23 3 rfl (by kernel_rfl) (wl_load rfl rfl (load_cell (fun _=>by kernel_rfl) (hb30.ext e38) rfl) (by decide) (ne_ (cw_true rfl (cw_region (mv 1 rfl (wl_pureE rfl rfl (v:= .int .i64 (IntKind.i64.wrap (0-((V:Nat):Int)))) (v':= .int .i64 (-((V:Nat):Int))) (by decide) (by kernel_rfl) (cv_negN (by omega)) (mv 1 rfl (ne_ (sr (mv 1 rfl (pf g23 2 rfl (by kernel_rfl) (wl_load rfl rfl (load_cell (fun _=>by kernel_rfl) (hb30.ext e38) rfl) (by decide) ?_)))))))))))))
     refine wl_ar rfl rfl rfl ((-((V:Nat):Int))-((bh:Nat):Int)) (ar_i64s rfl (by omega) (by omega)) (by decide) (mv 1 rfl (ne_ (sr (pf g23 1 rfl (by kernel_rfl) (wl_load rfl rfl (load_cell (fun _=>by kernel_rfl) (hb30.ext e38) rfl) (by decide) (wl_call rfl rfl (vs:= [.string (strB dg)]) (by kernel_rfl) (by decide) (by have h:=rx_ReadDec_good (w:=v37) hdg256 (by omega) (hdg.good hdg0);rw [hX] at h;exact h.mono (Gv.imp (T2.imp (WR.imp hw4.size) Is.imp))) ?_))))))
     rintro _ v215 ⟨xr217,rfl,r217,e216⟩
     refine ret_intro ?_
     have hw5:=hw4.trans e216
     obtain⟨_,_,rfl,⟨A219,n219,c219,rfl,j219,o219⟩,rfl⟩:=r217
     refine mv 1 rfl (pu (v:= .slice A219 n219 c219) rfl (by kernel_rfl) (pu (v:= .int .i64 0) rfl (by kernel_rfl) (mv 2 rfl (ne_ (sr (wl_bslice rfl rfl (by decide) (k:=1) (e:=50) [.int .u64 1] (fun _=>by kernel_rfl) fun g220 v221 nb222=>?_))))))
     have o223:=O1.mk_ (x:=1) (b:=w.heap.size) nb222 hw5.size
     have e224:=nb222.ext
     have hw6:=hw5.trans e224
     have o226:=own1_wd o223 (show 1≤18446744073709551615 by decide) (show 1≠0 by decide)
     have j225:=len1 (show 1≤18446744073709551615 by decide) (show 1≠0 by decide)
     refine mv 1 rfl (ne_ (cw_seq (cw_seq ?_)))
     by_cases hz:V+bh=0
     · 
      refine cw_keep [(0,.string (strB bs)),(2,.float .f64 0),(3,.int .i64 0),(10,.string (strB bs)),(11,.int .i64 ((bs.length:Nat):Int)),(12,.bool false),(14,.string (strB bs)),(15,.tuple #[.agg #[.bool (sgT bs),.string (strB dg),.int .i64 ((bh:Nat):Int),.bool true,.string (strB pw)],.bool true]),(13,.tuple #[.agg #[.bool (sgT bs),.string (strB dg),.int .i64 ((bh:Nat):Int),.bool true,.string (strB pw)],.bool true]),(16,.agg #[.bool (sgT bs),.string (strB dg),.int .i64 ((bh:Nat):Int),.bool true,.string (strB pw)]),(17,.bool true),(4,.pointer (some ⟨g23,0,none⟩)),(5,.bool true),(18,.bool true),(19,.bool false),(21,.pointer (some ⟨g23,4,none⟩)),(22,.string (strB pw)),(23,.tuple #[.int .i64 ((V:Nat):Int),.bool true]),(20,.tuple #[.int .i64 ((V:Nat):Int),.bool true]),(24,.int .i64 ((V:Nat):Int)),(25,.bool true),(6,.int .i64 ((-((V:Nat):Int))-((bh:Nat):Int))),(26,.bool true),(27,.bool false),(28,.pointer (some ⟨g23,3,none⟩)),(29,.bool true),(30,.int .i64 ((V:Nat):Int)),(31,.int .i64 (-((V:Nat):Int))),(32,.int .i64 (-((V:Nat):Int))),(33,.pointer (some ⟨g23,2,none⟩)),(34,.int .i64 ((bh:Nat):Int)),(35,.int .i64 ((-((V:Nat):Int))-((bh:Nat):Int))),(37,.pointer (some ⟨g23,1,none⟩)),(38,.string (strB dg)),(39,.tuple #[.slice A219 n219 c219,I0]),(36,.tuple #[.slice A219 n219 c219,I0]),(40,.slice A219 n219 c219),(41,.int .i64 0),(7,.slice A219 n219 c219),(8,.int .i64 0),(42,.slice (some ⟨g220,0,none⟩) 1 1),(9,.slice (some ⟨g220,0,none⟩) 1 1)] ⟨rfl,rfl,rfl,rfl,rfl,rfl,rfl,rfl,rfl,rfl,rfl,rfl,rfl,rfl,rfl,rfl,rfl,rfl,rfl,rfl,rfl,rfl,rfl,rfl,rfl,rfl,rfl,rfl,rfl,rfl,rfl,rfl,rfl,rfl,rfl,rfl,rfl,rfl,rfl,rfl,rfl,rfl,trivial⟩ ?_
      rw [show ((-((V:Nat):Int))-((bh:Nat):Int))=0 by omega]
      have h10:(wd (10^(0))).length≤0+1:=len_pow36 (by decide)
      refine cw_region (mv 1 rfl (wl_cmp rfl rfl rfl true (by decide) (by decide) (ne_ (cw_true rfl (cw_region (mv 2 rfl (cl (vs:= [I0]) hw6 (g_aten (n:=0) hw6.size (by omega)) rfl (by kernel_rfl) fun xr229 v227 r229 e228 hw7=>?_)))))))
      obtain⟨A230,n230,c230,rfl,j230,o230⟩:=r229
      refine cl (vs:= [.slice A219 n219 c219,.slice A230 n230 c230]) hw7 (rx_MulW hw7.size (o219.ext (e224.trans e228)).wi o230.wi (by omega)) rfl (by kernel_rfl) fun xr233 v231 r233 e232 hw8=>?_
      obtain⟨A234,n234,c234,rfl,j234,o234⟩:=r233
      refine mv 1 rfl (ne_ (cw_seq ?_))
      have hXM:(wd (X*10^(0))).length≤20000:=by have:=len_wd_mul X (10^(0));omega
      obtain⟨nb,hnb⟩:∃nb,nearB ((X*10^(0))*2^e74) 1=nb:=⟨_,rfl⟩
      have hnbl:nb≤9218868437227405312:=hnb▸nearB_le _ _
      have hrd:=rdR_ok (nb:=nb) hlong hcut hV h5 hX (by unfold nrX;rw [if_neg (by simp),if_pos rfl,hz,Nat.pow_zero];rw [Nat.pow_zero,Nat.mul_one] at hnb;exact hnb)
      refine cw_draw mix 6 [] [Is (.pointer (some ⟨g23,0,none⟩)),Is (.bool (sgT bs)),Is (.slice A234 n234 c234),Is (.slice (some ⟨g220,0,none⟩) 1 1),Is (.float .f64 nb),Is (.float .f64 (sgB (sgT bs) nb))] [[],[0],[],[],[2,3],[1,4]] [[],[0],[],[],[2,3],[0,1,2,3,4],[0,1,2,3,4,5],[0,1,2,3,4,5,6]] rfl
       (obs_cons rfl rfl (hob rfl rfl ?_) (obs_cons rfl rfl (hob rfl rfl ?_) (obs_cons rfl rfl (hob rfl rfl ?_) (obs_cons rfl rfl (hob rfl rfl ?_) (obs_cons rfl rfl (hob rfl rfl ?_) (obs_cons rfl rfl (hob rfl rfl ?_) obs_nil)))))) ?_
      · 
       exact fun _ _=>deps_nil (pf g23 0 rfl (by kernel_rfl) (pi_done rfl (Ext.refl _) rfl))
      · 
       exact fun _ e238=>dk rfl rfl (deps_nil (wl_load rfl rfl (load_cell (fun _=>by kernel_rfl) (hb30.ext (e38.trans (e216.trans (e224.trans (e228.trans (e232.trans e238)))))) rfl) (by decide) (pi_done rfl (Ext.refl _) rfl)))
      · 
       exact fun _ _=>deps_nil (mv 1 rfl (pi_done rfl (Ext.refl _) rfl))
      · 
       exact fun _ _=>deps_nil (mv 1 rfl (pi_done rfl (Ext.refl _) rfl))
      · 
       intro v248 e249
       have hw9:=hw8.trans e249
       refine dk rfl rfl (dk rfl rfl (deps_nil (cl (vs:= [.slice A234 n234 c234,.slice (some ⟨g220,0,none⟩) 1 1]) hw9 (g_nearest_v (o234.ext e249).wi (by omega) (o226.ext (e228.trans (e232.trans e249))).wi (by omega) (by decide) hnb) rfl (by kernel_rfl) fun xr262 v260 r262 e261 hw10=>?_)))
       obtain rfl:=r262
       exact pi_done rfl e261 rfl
      · 
       intro v263 e264
       have hw9:=hw8.trans e264
       refine dk rfl rfl (dk rfl rfl (deps_nil (cl (vs:= [.bool (sgT bs),.float .f64 nb]) hw9 (g_signed hnbl) rfl (by kernel_rfl) fun xr277 v275 r277 e276 hw10=>?_)))
       obtain rfl:=r277
       exact pi_done rfl e276 rfl
      · 
       intro v278 e279
       have hw9:=hw8.trans e279
       refine dk rfl rfl (dk rfl rfl (dk rfl rfl (dk rfl rfl (dk rfl rfl (dk rfl rfl (deps_nil (mv 2 rfl (wl_nil (eo_np (eo_then (cw_ret (eo_ret [.float .f64 (sgB (sgT bs) nb),I0] rfl ⟨rfl,rfl,trivial⟩ ?_))))))))))))
       have hr:=hrd
       exact⟨_,rfl,⟨_,_,rfl,(show Value.float .f64 _=_ by rw [hr]),(show Value.int .i64 _=_ by rw [hr])⟩,hw9⟩
     · 
      refine cw_keep [(0,.string (strB bs)),(2,.float .f64 0),(3,.int .i64 0),(10,.string (strB bs)),(11,.int .i64 ((bs.length:Nat):Int)),(12,.bool false),(14,.string (strB bs)),(15,.tuple #[.agg #[.bool (sgT bs),.string (strB dg),.int .i64 ((bh:Nat):Int),.bool true,.string (strB pw)],.bool true]),(13,.tuple #[.agg #[.bool (sgT bs),.string (strB dg),.int .i64 ((bh:Nat):Int),.bool true,.string (strB pw)],.bool true]),(16,.agg #[.bool (sgT bs),.string (strB dg),.int .i64 ((bh:Nat):Int),.bool true,.string (strB pw)]),(17,.bool true),(4,.pointer (some ⟨g23,0,none⟩)),(5,.bool true),(18,.bool true),(19,.bool false),(21,.pointer (some ⟨g23,4,none⟩)),(22,.string (strB pw)),(23,.tuple #[.int .i64 ((V:Nat):Int),.bool true]),(20,.tuple #[.int .i64 ((V:Nat):Int),.bool true]),(24,.int .i64 ((V:Nat):Int)),(25,.bool true),(6,.int .i64 ((-((V:Nat):Int))-((bh:Nat):Int))),(26,.bool true),(27,.bool false),(28,.pointer (some ⟨g23,3,none⟩)),(29,.bool true),(30,.int .i64 ((V:Nat):Int)),(31,.int .i64 (-((V:Nat):Int))),(32,.int .i64 (-((V:Nat):Int))),(33,.pointer (some ⟨g23,2,none⟩)),(34,.int .i64 ((bh:Nat):Int)),(35,.int .i64 ((-((V:Nat):Int))-((bh:Nat):Int))),(37,.pointer (some ⟨g23,1,none⟩)),(38,.string (strB dg)),(39,.tuple #[.slice A219 n219 c219,I0]),(36,.tuple #[.slice A219 n219 c219,I0]),(40,.slice A219 n219 c219),(41,.int .i64 0),(7,.slice A219 n219 c219),(8,.int .i64 0),(42,.slice (some ⟨g220,0,none⟩) 1 1),(9,.slice (some ⟨g220,0,none⟩) 1 1)] ⟨rfl,rfl,rfl,rfl,rfl,rfl,rfl,rfl,rfl,rfl,rfl,rfl,rfl,rfl,rfl,rfl,rfl,rfl,rfl,rfl,rfl,rfl,rfl,rfl,rfl,rfl,rfl,rfl,rfl,rfl,rfl,rfl,rfl,rfl,rfl,rfl,rfl,rfl,rfl,rfl,rfl,rfl,trivial⟩ ?_
      rw [show ((-((V:Nat):Int))-((bh:Nat):Int))=(-((V+bh:Nat):Int)) by omega]
      have h10:(wd (10^(V+bh))).length≤(V+bh)+1:=len_pow36 (by decide)
      refine cw_region (mv 1 rfl (wl_cmp rfl rfl rfl false (ge_f (by omega)) (by decide) (ne_ (cw_false rfl (cw_region (mv 1 rfl (wl_pureE rfl rfl (v:= .int .i64 (IntKind.i64.wrap (0- -((V+bh:Nat):Int)))) (v':= .int .i64 ((V+bh:Nat):Int)) (by decide) (by kernel_rfl) (cv_neg (by omega)) (cl (vs:= [.int .i64 ((V+bh:Nat):Int)]) hw6 (g_aten (n:=V+bh) hw6.size (by omega)) rfl (by kernel_rfl) fun xr312 v310 r312 e311 hw7=>?_))))))))
      obtain⟨A313,n313,c313,rfl,j313,o313⟩:=r312
      refine mv 1 rfl (ne_ (cw_seq ?_))
      obtain⟨nb,hnb⟩:∃nb,nearB (X*2^e74) (10^(V+bh))=nb:=⟨_,rfl⟩
      have hnbl:nb≤9218868437227405312:=hnb▸nearB_le _ _
      have hrd:=rdR_ok (nb:=nb) hlong hcut hV h5 hX (by unfold nrX;rw [if_neg (by simp),if_pos rfl];exact hnb)
      refine cw_draw mix 6 [] [Is (.pointer (some ⟨g23,0,none⟩)),Is (.bool (sgT bs)),Is (.slice A219 n219 c219),Is (.slice A313 n313 c313),Is (.float .f64 nb),Is (.float .f64 (sgB (sgT bs) nb))] [[],[0],[],[],[2,3],[1,4]] [[],[0],[],[],[2,3],[0,1,2,3,4],[0,1,2,3,4,5],[0,1,2,3,4,5,6]] rfl
       (obs_cons rfl rfl (hob rfl rfl ?_) (obs_cons rfl rfl (hob rfl rfl ?_) (obs_cons rfl rfl (hob rfl rfl ?_) (obs_cons rfl rfl (hob rfl rfl ?_) (obs_cons rfl rfl (hob rfl rfl ?_) (obs_cons rfl rfl (hob rfl rfl ?_) obs_nil)))))) ?_
      · 
       exact fun _ _=>deps_nil (pf g23 0 rfl (by kernel_rfl) (pi_done rfl (Ext.refl _) rfl))
      · 
       exact fun _ e317=>dk rfl rfl (deps_nil (wl_load rfl rfl (load_cell (fun _=>by kernel_rfl) (hb30.ext (e38.trans (e216.trans (e224.trans (e311.trans e317))))) rfl) (by decide) (pi_done rfl (Ext.refl _) rfl)))
      · 
       exact fun _ _=>deps_nil (mv 1 rfl (pi_done rfl (Ext.refl _) rfl))
      · 
       exact fun _ _=>deps_nil (mv 1 rfl (pi_done rfl (Ext.refl _) rfl))
      · 
       intro v327 e328
       have hw8:=hw7.trans e328
       refine dk rfl rfl (dk rfl rfl (deps_nil (cl (vs:= [.slice A219 n219 c219,.slice A313 n313 c313]) hw8 (g_nearest_v (o219.ext (e224.trans (e311.trans e328))).wi (by omega) (o313.ext e328).wi (by omega) (Nat.pow_pos (by decide)) hnb) rfl (by kernel_rfl) fun xr341 v339 r341 e340 hw9=>?_)))
       obtain rfl:=r341
       exact pi_done rfl e340 rfl
      · 
       intro v342 e343
       have hw8:=hw7.trans e343
       refine dk rfl rfl (dk rfl rfl (deps_nil (cl (vs:= [.bool (sgT bs),.float .f64 nb]) hw8 (g_signed hnbl) rfl (by kernel_rfl) fun xr356 v354 r356 e355 hw9=>?_)))
       obtain rfl:=r356
       exact pi_done rfl e355 rfl
      · 
       intro v357 e358
       have hw8:=hw7.trans e358
       refine dk rfl rfl (dk rfl rfl (dk rfl rfl (dk rfl rfl (dk rfl rfl (dk rfl rfl (deps_nil (mv 2 rfl (wl_nil (eo_np (eo_then (cw_ret (eo_ret [.float .f64 (sgB (sgT bs) nb),I0] rfl ⟨rfl,rfl,trivial⟩ ?_))))))))))))
       have hr:=hrd
       exact⟨_,rfl,⟨_,_,rfl,(show Value.float .f64 _=_ by rw [hr]),(show Value.int .i64 _=_ by rw [hr])⟩,hw8⟩
def IsRoot (X k r:Nat):Prop:=r^k≤X∧X<(r+1)^k
theorem IsRoot.le {X k r s:Nat}(h:IsRoot X k r) (hs:X<(s+1)^k):r≤s:=by
 refine Nat.le_of_not_lt (fun hlt=>?_)
 have h1:=Nat.pow_le_pow_left (Nat.succ_le_of_lt hlt) k
 have:=h.1
 rw [Nat.succ_eq_add_one] at h1
 omega
theorem IsRoot.uniq {X k r s:Nat}(h:IsRoot X k r) (g:IsRoot X k s):r=s:=Nat.le_antisymm (h.le g.2) (g.le h.2)
end Go.Proofs.YtipklngcpmkfhaaDoor

namespace Go.Proofs.YtipklngcpmkfhaaDoor
open Go.RowKit
open Ieee
theorem near_three:nearB (3*2^e74) 1=4613937818241073152:=by
 have e:rv 4613937818241073152=3*2^e74:=by
  obtain⟨p,hp⟩:∃p,p=1023:=⟨_,rfl⟩
  have h:=rv_form (p:=p) (m:=6755399441055744) (Or.inr (by decide)) (by decide)
  rw [show p*4503599627370496+6755399441055744=4613937818241073152 by subst hp;decide] at h
  have e0:e74=51+p:=by rw [e74_eq,hp]
  rw [h,e0,Nat.pow_add,←Nat.mul_assoc]
 have h:=nearR_self (D:=1) (r:=4613937818241073152) (by decide)
 rw [Nat.one_mul,e] at h
 unfold nearB
 rw [h];rfl
theorem nrB_m3:nrB (sg true 3)=13837309855095848960:=by
 unfold nrB
 have e1:(sg true 3).natAbs=3:=rfl
 have e2:decide (sg true 3<0)=true:=by decide
 rw [e1,e2,near_three];rfl
theorem awake7:(FloatKind.f64.format.order (nrB (sg true 3)) 13837309855095848960==some .eq)=true:=by
 rw [nrB_m3]
 show (double.order 13837309855095848960 13837309855095848960==some .eq)=true
 rw [order_fin (by decide) (by decide) (by decide) (by decide),Int.compare_eq_eq.2 rfl];rfl
def btB (f:Nat):Nat:=if mg f=0 then 0 else f
theorem flt_eq0_all (f:Nat):(FloatKind.f64.format.order f 0==some .eq)=decide (mg f=0):=by
 by_cases h:fin f
 ·exact flt_eq0 h
 ·rw [flt_eq0_not h,decide_eq_false (fun e=>h (by unfold fin;rw [e];decide))]
set_option maxHeartbeats 4000000 in
theorem g_awake7 {w:World}:
    Calls Tryd.prog 18 #[] w (Gv w (Is (.bool true))):=by
 refine sx_enter Tryd.func18 rfl (n:=7) rfl (bq rfl) (args:= []) (cw_keep [] trivial (sr (mv 1 rfl (ne_ (sr (wl_bslice rfl rfl (by decide) (k:=1) (e:=50) [.int .u64 3] (fun _=>by kernel_rfl) fun g1 v2 nb3=>?_))))))
 have o4:=O1.mk_ (x:=3) (b:=w.heap.size) nb3 (Ext.refl w).size
 have e5:=nb3.ext
 have hw1:=(Ext.refl w).trans e5
 have o7:=own1_wd o4 (show 3≤18446744073709551615 by decide) (show 3≠0 by decide)
 have j6:=len1 (show 3≤18446744073709551615 by decide) (show 3≠0 by decide)
 have z8:=Zr_sg true (show 3≠0 by decide) j6 o7
 refine pu (v:= .agg #[.bool true,.slice (some ⟨g1,0,none⟩) 1 1]) rfl (by kernel_rfl) (cl (vs:= [.agg #[.bool true,.slice (some ⟨g1,0,none⟩) 1 1]]) hw1 (g_Near z8.zi (z8.le (Nat.le_trans (ln_sg (s:=true) (Nat.le_of_eq j6.symm)) (by decide)))) rfl (by kernel_rfl) fun xr11 v9 r11 e10 hw2=>?_)
 obtain rfl:=r11
 refine mv 1 rfl (ne_ (sr (mv 1 rfl (wl_pureE rfl rfl (v:= .bool (FloatKind.f64.format.order (nrB (sg true 3)) 13837309855095848960==some .eq)) (v':= .bool true) (by decide) (by kernel_rfl) (congrArg Value.bool awake7) (mv 1 rfl (ne_ (cw_ret (eo_ret [.bool true] rfl ⟨rfl,trivial⟩ ?_))))))))
 exact⟨_,rfl,rfl,hw2⟩
set_option maxHeartbeats 4000000 in
theorem g_bits7 {w:World}{f:Nat}:
    Calls Tryd.prog 29 #[.float .f64 f] w (Gv w (Is (.int .u64 ((btB f:Nat):Int)))):=by
 refine sx_enter Tryd.func29 rfl (n:=7) rfl (bq rfl) (args:= [.float .f64 f]) (cw_keep [(0,.float .f64 f)] ⟨rfl,trivial⟩ (sr (mv 1 rfl (ne_ (cw_seq (cw_seq ?_))))))
 by_cases hz:mg f=0
 · 
  refine cw_region (mv 1 rfl (wl_pureE rfl rfl (v:= .bool (FloatKind.f64.format.order f 0==some .eq)) (v':= .bool true) (by decide) (by kernel_rfl) (congrArg Value.bool ((flt_eq0_all f).trans (decide_eq_true hz))) (ne_ (cw_true rfl (sr (mv 1 rfl (ne_ (cw_ret (eo_thenR (eo_ret [.int .u64 0] rfl ⟨rfl,trivial⟩ ?_))))))))))
  exact⟨_,rfl,(show Value.int .u64 0=_ by rw [show btB f=_ from if_pos hz];rfl),(Ext.refl w)⟩
 · 
  refine cw_region (mv 1 rfl (wl_pureE rfl rfl (v:= .bool (FloatKind.f64.format.order f 0==some .eq)) (v':= .bool false) (by decide) (by kernel_rfl) (congrArg Value.bool ((flt_eq0_all f).trans (decide_eq_false hz))) (ne_ (cw_false rfl (cw_skip (eo_then (sr (mv 1 rfl (pu (v:= .int .u64 ((f:Nat):Int)) rfl (by kernel_rfl) (mv 1 rfl (ne_ (cw_ret (eo_ret [.int .u64 ((f:Nat):Int)] rfl ⟨rfl,trivial⟩ ?_)))))))))))))
  exact⟨_,rfl,(show Value.int .u64 ((f:Nat):Int)=_ by rw [show btB f=_ from if_neg hz]),(Ext.refl w)⟩
end Go.Proofs.YtipklngcpmkfhaaDoor

namespace Go.Proofs.YtipklngcpmkfhaaDoor
open Go.RowKit
theorem tenT {k:Nat}:(∀b,b∈ [49]++List.replicate k 48→b<256)∧ztl ([49]++List.replicate k 48)= [49]++List.replicate k 48∧Good 10 ([49]++List.replicate k 48)∧zval ([49]++List.replicate k 48)=((10^k:Nat):Int):=by
 have hd:Digs ([49]++List.replicate k 48):=fun c hc=>by
  rcases List.mem_append.1 hc with h | h
  ·rw [List.mem_singleton] at h;omega
  ·rw [List.eq_of_mem_replicate h];decide
 have hv:vald 10 (([49]++List.replicate k 48).map dv)=10^k:=by
  induction k with
  | zero=>rfl
  | succ k ih=>
   rw [List.replicate_succ',←List.append_assoc,List.map_append,List.map_cons,List.map_nil,vald_snoc,ih (fun c hc=>hd c (by rw [List.replicate_succ',←List.append_assoc];exact List.mem_append_left _ hc)),Nat.pow_succ]
   rfl
 have hz:ztl ([49]++List.replicate k 48)= [49]++List.replicate k 48:=by
  unfold ztl
  rw [if_neg (by show¬ [49]= [43];decide),if_neg (by show¬ [49]= [45];decide),if_neg (by cases k with | zero=>decide | succ k=>cases k with | zero=>decide | succ k=>show¬ [49,48,48]= [226,136,146];decide)]
 have hn:zng ([49]++List.replicate k 48)=false:=by
  unfold zng
  rw [if_neg (by show¬ [49]= [43];decide),if_neg (by show¬ [49]= [45];decide),if_neg (by cases k with | zero=>decide | succ k=>cases k with | zero=>decide | succ k=>show¬ [49,48,48]= [226,136,146];decide)]
 refine⟨fun b hb=>by have:=hd b hb;omega,hz,hd.good (by simp),?_⟩
 rw [zval_pos hz hn,hv]
set_option maxHeartbeats 4000000 in
theorem g_ten7 {w:World}{k u b:Nat}(hu:10^k=u) (hb:b≤w.heap.size) (hk:k≤1073741824):
    Calls Tryd.prog 24 #[.int .i64 ((k:Nat):Int)] w (Gv w (ZR b ((u:Nat):Int))):=by
 refine sx_enter Tryd.func24 rfl (n:=23) rfl (bq rfl) (args:= [.int .i64 ((k:Nat):Int)]) (cw_keep [(0,.int .i64 ((k:Nat):Int))] ⟨rfl,trivial⟩ (sr (al [F0,S0] (Ext.refl w) (fun _=>by kernel_rfl) rfl fun g1 v2 hb4 ge5 e3 hw1=>(ne_ (sr (wl_bslice rfl rfl (by decide) (k:=1) (e:=5) [.int .u8 49] (fun _=>by kernel_rfl) fun g6 v7 nb=>?_))))))
 have hb8:=nb.bk
 have e9:=nb.ext
 have ge10:w.heap.size≤g6:=by rw [←nb.at_];exact hw1.size
 clear nb
 have hw2:=hw1.trans e9
 refine mv 1 rfl (ne_ (cw_seq (cw_seq ?_)))
 have ho11:Own v7 w.heap.size 5 1 (some ⟨g6,0,none⟩) 1 1 (([49]:List Nat).map B8):=Own.mk_ ge10 hb8 (Nat.le_refl _) (by rw [len_maxLen];omega) rfl rfl
 refine cw_region (mv 1 rfl (ne_ (cw_block ?_)))
 refine cw_loop (T:=World×Nat×Option Addr×Nat×Nat)
  (fun⟨wr,i,OA,on,oc⟩=> [(0,.int .i64 ((k:Nat):Int)),(2,.pointer (some ⟨g1,0,none⟩)),(3,.slice OA on oc),(4,.int .i64 ((i:Nat):Int))])
  (fun⟨wr,i,OA,on,oc⟩=>wr)
  (fun⟨wr,i,OA,on,oc⟩=>(Ext w wr)∧(Own wr w.heap.size 5 1 OA on oc (([49]++List.replicate i 48).map B8))∧(i≤k)∧(Bk wr g1 24 [F0,S0]))
  (fun⟨wr,i,OA,on,oc⟩=>k-i)
  (⟨v7,0,(some ⟨g6,0,none⟩),1,1⟩:World×Nat×Option Addr×Nat×Nat) ⟨hw2,ho11,(Nat.zero_le _),(hb4.ext e9)⟩ rfl ⟨rfl,rfl,rfl,rfl,trivial⟩ ?_
 rintro⟨wr,i,OA,on,oc⟩ ⟨hw1,hO,hi,hbx⟩
 refine cw_re [(0,.int .i64 ((k:Nat):Int)),(2,.pointer (some ⟨g1,0,none⟩)),(3,.slice OA on oc),(4,.int .i64 ((i:Nat):Int))] wr rfl ⟨rfl,rfl,rfl,rfl,trivial⟩ ?_
 have hon:on=i+1:=by have h:=own_len hO;rw [List.length_append,List.length_replicate] at h;simp at h;omega
 refine cw_seq (cw_seq ?_)
 by_cases hlt:i<k
 · 
  refine cw_region (mv 2 rfl (wl_cmp rfl rfl rfl true (cb_lt_t (a:=i) (b:=k) rfl rfl (by omega)) (by decide) (ne_ (cw_true rfl (cw_skip (eo_then (cw_seq (cw_block (cw_region (mv 1 rfl (wl_bslice rfl rfl (by decide) (k:=1) (e:=5) [.int .u8 48] (fun _=>by kernel_rfl) fun g12 v13 nb=>?_)))))))))))
  have hb14:=nb.bk
  have e15:=nb.ext
  have ge16:w.heap.size≤g12:=by rw [←nb.at_];exact hw1.size
  clear nb
  have hw2:=hw1.trans e15
  have ow17:=(hO.ext e15)
  refine wl_app rfl rfl rfl un_u8 info8 rfl (by decide) (by decide) ow17 hw2.size [.int .u8 48] rfl (one_news _ hb14) rfl (by omega) (by decide) fun A18 c19 v20 ho21 uo22 kp23=>?_
  have hw3:=uo22.ext hw2 (fun p hp=>(ow17.block p hp).1)
  have ho24:Own v20 w.heap.size 5 1 A18 (on+1) c19 ((([49]++List.replicate i 48)++ [48]).map B8):=by have h:=ho21;simp only [List.map_append,List.map_cons,List.map_nil] at h⊢;exact h
  refine mv 1 rfl (wl_nil (eo_block_normal (eo_then (cw_region (mv 1 rfl (wl_ar rfl rfl rfl ((i+1:Nat):Int) (ai_add (a:=i) (b:=1) rfl rfl (by omega)) (by decide) (mv 1 rfl (wl_nil (eo_round (⟨v20,i+1,A18,on+1,c19⟩:World×Nat×Option Addr×Nat×Nat) ⟨hw3,(by rw [List.replicate_succ',←List.append_assoc];exact ho24),(by omega),((hbx.ext e15).updO uo22 (own_ne ow17 (hbx.ext e15) (by decide)))⟩ (show k-(i+1)<k-i by omega) rfl ⟨rfl,rfl,rfl,rfl,trivial⟩)))))))))
 · 
  have hik:i=k:=by omega
  rw [hik] at hO
  obtain⟨ht1,ht2,ht3,ht4⟩:=tenT (k:=k)
  rw [hu] at ht4
  refine cw_region (mv 2 rfl (wl_cmp rfl rfl rfl false (cb_lt_f (a:=i) (b:=k) rfl rfl (by omega)) (by decide) (ne_ (cw_false rfl (cw_exit (eo_thenX (eo_loopX (eo_block_here (eo_then (sr (mv 1 rfl (wl_toStr rfl rfl hO (by decide) (cl (vs:= [.string (strB ([49]++List.replicate k 48))]) hw1 (rx_zRead hw1.size ht1 (by simp;omega) ht2 ht3 ht4) rfl (by kernel_rfl) fun xr27 v25 r27 e26 hw2=>?_)))))))))))))
  obtain⟨_,_,rfl,⟨s29,A29,n29,c29,rfl,z29⟩,rfl⟩:=r27
  refine mv 1 rfl (pu (v:= .agg #[.bool s29,.slice A29 n29 c29]) rfl (by kernel_rfl) (pu (v:= .int .i64 0) rfl (by kernel_rfl) (alq [F0,S0] hw2 (hbx.ext e26).lt (fun _=>by kernel_rfl) rfl fun g30 v31 hb33 ge34 q35 e32 hw3=>(so aggInt hb33 [.bool s29,.slice A29 n29 c29] hw3 ge34 rfl rfl rfl rfl fun v36 hb38 u39 hw4=>(mv 1 rfl (ne_ (sr (lo aggInt hb38 [.bool s29,.slice A29 n29 c29] rfl rfl rfl ?_))))))))
  have hb42:=((hbx.ext (e26.trans e32)).updN u39 (by omega))
  refine so aggInt hb42 [.bool s29,.slice A29 n29 c29] hw4 ge5 rfl rfl rfl rfl fun v41 hb43 u44 hw5=>(ne_ (cw_ret (eo_ret [.agg #[.bool s29,.slice A29 n29 c29]] rfl ⟨⟨_,rfl,load_agg aggInt hb43 [.bool s29,.slice A29 n29 c29] rfl (bq rfl) rfl⟩,trivial⟩ ?_)))
  exact⟨_,rfl,⟨_,_,_,_,rfl,((((z29.ext e32).updT hb33 u39).updT hb42 u44)).mono hb⟩,hw5⟩
structure SciF (t:List Nat) (n q X P:Nat):Prop where
 b256:∀b,b∈t→b<256
 hp:P=if 1<n then n+1 else n
 len:t.length=P+1+(txtN 10 X).length
 d:∀j,j<n→t.getD (if j=0 then 0 else j+1) 0=(dgs n q).getD j 0
 dot:1<n→t.getD 1 0=46
 e:t.getD P 0=101
 x:∀i,i<(txtN 10 X).length→t.getD (P+1+i) 0=(txtN 10 X).getD i 0
theorem g_aread_n {w:World}{bs:List Nat}{f:Nat}{e:Int}(hbs:∀b,b∈bs→b<256) (hlen:bs.length≤1099511627776) (h:rdR bs=(f,e)):Calls Tryd.prog 28 #[.string (strB bs)] w (Gv w (T2 (Is (.float .f64 f)) (Is (.int .i64 e)))):=by
 have h2:=g_aread (w:=w) hbs hlen
 rw [h] at h2;exact h2
theorem rd_int {x:Int}(h:¬4096<(txtZ x).length):rdR (txtZ x)=(nrB x,0):=by
 have hd:=txtN_digs (m:=x.natAbs)
 have hc:=cutF_of (sn:=decide (x<0)) (r:= []) hd.1 hd.2 (by decide)
 rw [cutD_nil] at hc
 rw [txtZ_sg] at h⊢
 rw [rdR_ok (V:=0) (X:=x.natAbs) (nb:=nearB (x.natAbs*2^e74) 1) h hc.1 rfl (by decide) (by rw [List.append_nil];exact vald_digs10) (by unfold nrX;rw [if_pos ⟨rfl,Nat.le_refl _⟩,Nat.sub_self,Nat.pow_zero,Nat.mul_one]),hc.2]
 rfl
theorem sg_mulpos {x:Int}{u:Nat}(hu:0<u):decide (x*((u:Nat):Int)<0)=decide (x<0):=by
 by_cases h:x<0
 ·rw [decide_eq_true h,decide_eq_true (Int.mul_neg_of_neg_of_pos h (by omega))]
 ·rw [decide_eq_false h,decide_eq_false (by have:=Int.mul_nonneg (show 0≤x by omega) (show (0:Int)≤(u:Int) by omega);omega)]
theorem rd_up {x:Int}{k u:Nat}(hu:10^k=u) (hk:k≤5000) (h:¬4096<((txtZ x++ [101])++txtN 10 k).length):rdR ((txtZ x++ [101])++txtN 10 k)=(nrB (x*((u:Nat):Int)),0):=by
 have hd:=txtN_digs (m:=x.natAbs)
 have hk2:=txtN_digs (m:=k)
 have hc:=cutF_of (sn:=decide (x<0)) (r:= [101]++txtN 10 k) hd.1 hd.2 (by show¬(48≤101∧101≤57);decide)
 rw [cutD_e (show ([101]++txtN 10 k).getD 0 0≠46 by show 101≠46;decide),show cutE ([101]++txtN 10 k)=some (false,txtN 10 k) from cutE_exp (ng:=false) hk2.1 hk2.2 (Or.inl rfl)] at hc
 have e:(txtZ x++ [101])++txtN 10 k=(if decide (x<0)=true then [45] else [])++(txtN 10 x.natAbs++([101]++txtN 10 k)):=by rw [txtZ_sg];simp only [List.append_assoc,List.append_nil,List.nil_append]
 rw [e] at h⊢
 have hp:0<u:=hu▸pow_pos10 k
 rw [rdR_ok (V:=k) (X:=x.natAbs) (nb:=nearB (x.natAbs*u*2^e74) 1) h hc.1 vald_digs10 (by omega) (by rw [List.append_nil];exact vald_digs10) (by unfold nrX;rw [if_pos ⟨rfl,Nat.zero_le _⟩,Nat.sub_zero,hu]),hc.2]
 unfold nrB
 rw [sg_mulpos hp,Int.natAbs_mul,Int.natAbs_natCast]
theorem rd_dn {x:Int}{k u:Nat}(hu:10^k=u) (hk:k≤5000) (h:¬4096<((txtZ x++ [101,45])++txtN 10 k).length):rdR ((txtZ x++ [101,45])++txtN 10 k)=(raB x ((u:Nat):Int),0):=by
 have hd:=txtN_digs (m:=x.natAbs)
 have hk2:=txtN_digs (m:=k)
 have hc:=cutF_of (sn:=decide (x<0)) (r:= [101]++([45]++txtN 10 k)) hd.1 hd.2 (by show¬(48≤101∧101≤57);decide)
 rw [cutD_e (show ([101]++([45]++txtN 10 k)).getD 0 0≠46 by show 101≠46;decide),show cutE ([101]++([45]++txtN 10 k))=some (true,txtN 10 k) from cutE_exp (ng:=true) hk2.1 hk2.2 (Or.inl rfl)] at hc
 have e:(txtZ x++ [101,45])++txtN 10 k=(if decide (x<0)=true then [45] else [])++(txtN 10 x.natAbs++([101]++([45]++txtN 10 k))):=by rw [txtZ_sg];simp only [List.append_assoc,List.append_nil,List.nil_append,List.cons_append]
 rw [e] at h⊢
 have hp:0<u:=hu▸pow_pos10 k
 rw [rdR_ok (V:=k) (X:=x.natAbs) (nb:=nearB (x.natAbs*2^e74) u) h hc.1 vald_digs10 (by omega) (by rw [List.append_nil];exact vald_digs10) (by unfold nrX;rw [if_neg (by simp),if_pos rfl,Nat.add_zero,hu]),hc.2]
 unfold raB
 rw [sg_mulpos hp,Int.natAbs_natCast]
theorem txtZ_lt7 {x:Int}:∀c,c∈txtZ x→c<256:=by
 intro c hc
 have hd:=(txtN_digs (m:=x.natAbs)).1
 rw [txtZ_sg,List.append_nil] at hc
 rcases List.mem_append.1 hc with h | h
 ·split at h
  ·rw [List.mem_singleton] at h;omega
  ·cases h
 ·have:=hd c h;omega
theorem txtZ_len7 {x:Int}(h:ln x≤1048576):(txtZ x).length≤67108866:=by
 have h2:(txtN 10 x.natAbs).length≤67108865:=txtN_len (b:=10) (n:=1048576) (by decide) h
 rw [txtZ_sg,List.append_nil,List.length_append]
 have:(if decide (x<0)=true then [45] else ([]:List Nat)).length≤1:=by split <;> simp
 omega
theorem g_ztxt_s {w:World}{s:Bool}{A:Option Addr}{n c:Nat}{x:Int}{t:List Nat}(ht:t=txtZ x) (hx:Zi w s A n c x) (la:n≤4194304) (hS:Signs w):Calls Tryd.prog 21 #[.agg #[.bool s,.slice A n c]] w (Gv w (Is (.string (strB t)))):=by subst ht;exact rx_zTextF hx la hS
theorem g_Near_u {w:World}{s:Bool}{A:Option Addr}{n cap:Nat}{x:Int}{f:Nat}(hf:nrB x=f) (hx:Zi w s A n cap x) (la:n≤67108864):Calls Tryd.prog 30 #[.agg #[.bool s,.slice A n cap]] w (Gv w (Is (.float .f64 f))):=by
 subst hf;exact g_Near hx la
theorem g_Ratio_u {w:World}{s:Bool}{A:Option Addr}{n cap:Nat}{x:Int}{f u:Nat}(hf:raB x ((u:Nat):Int)=f) (hx:Zi w s A n cap x) (la:n≤67108864){t:Bool}{B:Option Addr}{m cap':Nat}(hy:Zi w t B m cap' ((u:Nat):Int)) (lb:m≤67108864) (h0:u≠0):
  Calls Tryd.prog 31 #[.agg #[.bool s,.slice A n cap],.agg #[.bool t,.slice B m cap']] w (Gv w (T2 (Is (.float .f64 f)) (Is (.int .i64 0)))):=by
 subst hf;exact g_Ratio hx la hy lb (by omega)
theorem ln_ten {k u:Nat}(hu:10^k=u):ln ((u:Nat):Int)≤k+1:=by rw [ln_nat,←hu];exact len_pow36 (by decide)
theorem gv_bool7u {w:World}{b:Bool}:∀e w',Gv w (Is (.bool b)) e w'→BoolP b w e w':=by
 rintro e w' ⟨v,rfl,rfl,hx⟩
 exact⟨rfl,hx⟩
theorem g_ztext_k {w:World}{s:Bool}{A:Option Addr}{n c k:Nat}{t:List Nat}(ht:t=txtN 10 k) (hx:Zi w s A n c ((k:Nat):Int)) (la:n≤4194304) (hS:Signs w):Calls Tryd.prog 21 #[.agg #[.bool s,.slice A n c]] w (Gv w (Is (.string (strB t)))):=by subst ht;exact g_ztext_n hx la hS
set_option maxHeartbeats 8000000 in
set_option maxRecDepth 20000 in
theorem law_ApproxTextsG {w:World}{k:Nat}{sa:Bool}{Aa:Option Addr}{na ca:Nat}{x:Int}(hx:Zi w sa Aa na ca x) (la:na≤1048576) (hS:Signs w) (hk:k≤5000):
    Calls Tryd.prog 5 #[.agg #[.bool sa,.slice Aa na ca],.int .i64 ((k:Nat):Int)] w (Gv w (Is (.bool true))):=by
 have Lx:ln x≤1048576:=Nat.le_trans hx.ln la
 refine sx_enter Tryd.func5 rfl (n:=108) rfl (bq rfl) (args:= [.agg #[.bool sa,.slice Aa na ca],.int .i64 ((k:Nat):Int)]) (cw_keep [(0,.agg #[.bool sa,.slice Aa na ca]),(1,.int .i64 ((k:Nat):Int))] ⟨rfl,rfl,trivial⟩ (sr (bx [.bool sa,.slice Aa na ca] (Ext.refl w) rfl rfl rfl fun g1 v2 hb4 ge5 e3 hw1=>(mv 1 rfl (ne_ (cw_seq (sr (wl_call rfl rfl (vs:= []) (by kernel_rfl) (by decide) g_awake7 ?_))))))))
 rintro _ v6 ⟨xr8,rfl,r8,e7⟩
 refine ret_intro ?_
 have hw2:=hw1.trans e7
 obtain rfl:=r8
 refine pu (v:= .bool false) rfl (by kernel_rfl) (ne_ (cw_false rfl (cw_skip (eo_then (cw_seq ?_)))))
 obtain⟨s,hs⟩:∃s,s=txtZ x:=⟨_,rfl⟩
 have hs256:∀b,b∈s→b<256:=hs▸txtZ_lt7
 have hsl:s.length≤67108866:=hs▸txtZ_len7 Lx
 refine cw_region (lo aggInt (hb4.ext e7) [.bool sa,.slice Aa na ca] rfl rfl rfl (cl (vs:= [.agg #[.bool sa,.slice Aa na ca]]) hw2 (g_ztxt_s hs (hx.ext hw2) (lx_ la rfl) (hS.ext hw2)) rfl (by kernel_rfl) fun xr11 v9 r11 e10 hw3=>?_))
 obtain rfl:=r11
 refine mv 1 rfl (ne_ (cw_seq ?_))
 by_cases hlong:s.length>4096
 · 
  have hr0:=rdR_long hlong
  have hb0:btB 0=0:=rfl
  refine cw_region (mv 1 rfl (cl (vs:= [.string (strB s)]) hw3 (g_aread_n hs256 (by omega) hr0) rfl (by kernel_rfl) fun xr14 v12 r14 e13 hw4=>?_))
  obtain⟨_,_,rfl,rfl,rfl⟩:=r14
  refine mv 1 rfl (pu (v:= .float .f64 0) rfl (by kernel_rfl) (pu (v:= .int .i64 5) rfl (by kernel_rfl) (mv 2 rfl (ne_ (cw_seq (sr (mv 1 rfl (wl_pureE rfl rfl (v:= .int .i64 (((strB s).size:Nat):Int)) (v':= .int .i64 ((s.length:Nat):Int)) (by decide) (by kernel_rfl) (by rw [strB_size]) (wl_cmp rfl rfl rfl true (cb_gt_t (a:=s.length) (b:=4096) rfl rfl (by omega)) (by decide) (ne_ (cw_true rfl (sr (mv 1 rfl ?_)))))))))))))
  refine wl_cmp rfl rfl rfl true (by decide) (by decide) (mv 2 rfl (cl (vs:= [.float .f64 0]) hw4 (g_bits7 (f:=0)) rfl (by kernel_rfl) fun xr18 v16 r18 e17 hw5=>?_))
  obtain rfl:=r18
  refine wl_cmp rfl rfl rfl true (cb_eq_t (a:=btB 0) (b:=0) rfl rfl (by omega)) (by decide) (pu (v:= .bool true) rfl (by kernel_rfl) (mv 1 rfl (ne_ (cw_ret (eo_thenR (eo_ret [.bool true] rfl ⟨rfl,trivial⟩ ?_))))))
  exact⟨_,rfl,rfl,hw5⟩
 · 
  obtain⟨F0,hF0⟩:∃f,nrB x=f:=⟨_,rfl⟩
  have hr0:rdR s=(F0,0):=by rw [hs] at hlong⊢;rw [rd_int hlong,hF0]
  refine cw_region (mv 1 rfl (cl (vs:= [.string (strB s)]) hw3 (g_aread_n hs256 (by omega) hr0) rfl (by kernel_rfl) fun xr21 v19 r21 e20 hw4=>?_))
  obtain⟨_,_,rfl,rfl,rfl⟩:=r21
  refine mv 1 rfl (pu (v:= .float .f64 F0) rfl (by kernel_rfl) (pu (v:= .int .i64 0) rfl (by kernel_rfl) (mv 2 rfl (ne_ (cw_seq (sr (mv 1 rfl (wl_pureE rfl rfl (v:= .int .i64 (((strB s).size:Nat):Int)) (v':= .int .i64 ((s.length:Nat):Int)) (by decide) (by kernel_rfl) (by rw [strB_size]) (wl_cmp rfl rfl rfl false (cb_gt_f (a:=s.length) (b:=4096) rfl rfl (by omega)) (by decide) (ne_ (cw_false rfl (cw_skip (eo_then ?_)))))))))))))
  refine cw_seq (cw_seq ?_)
  refine cw_draw mix 10 [] [Is (.int .i64 0),Is (.bool false),Is (.bool false),Is (.float .f64 F0),Is (.int .u64 ((btB F0:Nat):Int)),Is (.agg #[.bool sa,.slice Aa na ca]),Is (.float .f64 F0),Is (.int .u64 ((btB F0:Nat):Int)),Is (.bool false),Is (.bool false)] [[],[0],[1],[2],[2,3],[2],[2,5],[2,6],[2,4,7],[2,8]] [[],[0],[0,1],[0,1,2],[0,1,2,3],[0,1,2],[0,1,2,3,4,5],[0,1,2,3,4,5,6],[0,1,2,3,4,5,6,7],[0,1,2,3,4,5,6,7,8]] rfl
   (obs_cons rfl rfl (hob rfl rfl ?_) (obs_cons rfl rfl (hob rfl rfl ?_) (obs_cons rfl rfl (hob rfl rfl ?_) (obs_cons rfl rfl (hob rfl rfl ?_) (obs_cons rfl rfl (hob rfl rfl ?_) (obs_cons rfl rfl (hob rfl rfl ?_) (obs_cons rfl rfl (hob rfl rfl ?_) (obs_cons rfl rfl (hob rfl rfl ?_) (obs_cons rfl rfl (hob rfl rfl ?_) (obs_cons rfl rfl (hob rfl rfl ?_) obs_nil)))))))))) ?_
  · 
   exact fun _ _=>deps_nil (mv 1 rfl (pi_done rfl (Ext.refl _) rfl))
  · 
   exact fun _ _=>dk rfl rfl (deps_nil (wl_cmp rfl rfl rfl false (by decide) (by decide) (pi_done rfl (Ext.refl _) rfl)))
  · 
   exact fun _ _=>dk rfl rfl (deps_nil (mv 1 rfl (pi_done rfl (Ext.refl _) rfl)))
  · 
   exact fun _ _=>dk rfl rfl (deps_nil (mv 1 rfl (pi_done rfl (Ext.refl _) rfl)))
  · 
   intro v46 e47
   have hw5:=hw4.trans e47
   refine dk rfl rfl (dk rfl rfl (deps_nil (cl (vs:= [.float .f64 F0]) hw5 (g_bits7 (f:=F0)) rfl (by kernel_rfl) fun xr60 v58 r60 e59 hw6=>?_)))
   obtain rfl:=r60
   exact pi_done rfl e59 rfl
  · 
   exact fun _ e62=>dk rfl rfl (deps_nil (lo aggInt (hb4.ext (e7.trans (e10.trans (e20.trans e62)))) [.bool sa,.slice Aa na ca] rfl rfl rfl (pi_done rfl (Ext.refl _) rfl)))
  · 
   intro v68 e69
   have hw5:=hw4.trans e69
   refine dk rfl rfl (dk rfl rfl (deps_nil (cl (vs:= [.agg #[.bool sa,.slice Aa na ca]]) hw5 (g_Near_u hF0 (hx.ext hw5) (lx_ la rfl)) rfl (by kernel_rfl) fun xr82 v80 r82 e81 hw6=>?_)))
   obtain rfl:=r82
   exact pi_done rfl e81 rfl
  · 
   intro v83 e84
   have hw5:=hw4.trans e84
   refine dk rfl rfl (dk rfl rfl (deps_nil (cl (vs:= [.float .f64 F0]) hw5 (g_bits7 (f:=F0)) rfl (by kernel_rfl) fun xr97 v95 r97 e96 hw6=>?_)))
   obtain rfl:=r97
   exact pi_done rfl e96 rfl
  · 
   exact fun _ _=>dk rfl rfl (dk rfl rfl (dk rfl rfl (deps_nil (wl_cmp rfl rfl rfl false (cb_ne_f (a:=btB F0) (b:=btB F0) rfl rfl (by omega)) (by decide) (pi_done rfl (Ext.refl _) rfl)))))
  · 
   exact fun _ _=>dk rfl rfl (dk rfl rfl (deps_nil (pu (v:= .bool false) rfl (by kernel_rfl) (pi_done rfl (Ext.refl _) rfl))))
  · 
   intro v127 e128
   have hw5:=hw4.trans e128
   refine dk rfl rfl (dk rfl rfl (dk rfl rfl (dk rfl rfl (dk rfl rfl (dk rfl rfl (dk rfl rfl (dk rfl rfl (dk rfl rfl (dk rfl rfl (deps_nil (wl_nil (eo_np (eo_then ?_)))))))))))))
   refine cw_false rfl (cw_skip (eo_then (cw_seq (sr (mv 1 rfl (wl_cmp rfl rfl rfl false (cb_lt_f (a:=k) (b:=0) rfl rfl (by omega)) (by decide) (mv 2 rfl (wl_cmp rfl rfl rfl false (cb_gt_f (a:=k) (b:=5000) rfl rfl (by omega)) (by decide) (pu (v:= .bool false) rfl (by kernel_rfl) (ne_ (cw_false rfl (cw_skip (eo_then ?_)))))))))))))
   refine cw_seq ?_
   obtain⟨ks,hks⟩:∃s,s=txtN 10 k:=⟨_,rfl⟩
   have hk256:∀b,b∈ks→b<256:=fun b hb=>by have:=(txtN_digs (m:=k)).1 b (hks▸hb);omega
   have hkl:ks.length≤65:=by rw [hks];exact txtN_len (b:=10) (n:=1) (by decide) (len_w64a (by omega))
   have h1l:((s++ [101])++ks).length=s.length+1+ks.length:=by simp only [List.length_append,List.length_cons,List.length_nil]
   have h2l:((s++ [101,45])++ks).length=s.length+2+ks.length:=by simp only [List.length_append,List.length_cons,List.length_nil]
   have h1b:∀b,b∈(s++ [101])++ks→b<256:=fun b hb=>by simp only [List.mem_append,List.mem_singleton] at hb;rcases hb with (h | h) | h;(· exact hs256 b h);(· omega);(· exact hk256 b h)
   have h2b:∀b,b∈(s++ [101,45])++ks→b<256:=fun b hb=>by simp only [List.mem_append,List.mem_cons,List.not_mem_nil,or_false] at hb;rcases hb with (h | h | h) | h;(· exact hs256 b h);(· omega);(· omega);(· exact hk256 b h)
   obtain⟨u,hu⟩:∃u,10^k=u:=⟨_,rfl⟩
   have hu0:u≠0:=by have:=pow_pos10 k;omega
   have hul:ln ((u:Nat):Int)≤5001:=Nat.le_trans (ln_ten hu) (by omega)
   by_cases hlong2:(s.length+2)+ks.length>4096
   · 
    obtain⟨f1,e1,hr1⟩:∃f e,rdR ((s++ [101])++ks)=(f,e):=⟨_,_,rfl⟩
    have hr2:=rdR_long (bs:=(s++ [101,45])++ks) (by rw [h2l];exact hlong2)
    refine cw_region (mv 1 rfl (cl (vs:= [.int .i64 ((k:Nat):Int)]) hw5 (g_zint_Of hw5.size (by omega) (by omega)) rfl (by kernel_rfl) fun xr181 v179 r181 e180 hw6=>?_))
    obtain⟨s182,A182,n182,c182,rfl,z182⟩:=r181
    refine cl (vs:= [.agg #[.bool s182,.slice A182 n182 c182]]) hw6 (g_ztext_k hks z182.zi (z182.le (Nat.le_trans (show ln ((k:Nat):Int)≤1 by rw [ln_nat];exact len_w64a (by omega)) (by decide))) (hS.ext hw6)) rfl (by kernel_rfl) fun xr185 v183 r185 e184 hw7=>?_
    obtain rfl:=r185
    refine mv 1 rfl (ne_ (sr (mv 1 rfl (wl_op rfl rfl rfl (r:= .string (strB (s++([101])))) rfl (fun w=>str_add (a:=s) (b:= [101]) (by simp only [List.length_append,List.length_cons,List.length_nil];omega)) (by decide) (mv 1 rfl (wl_op rfl rfl rfl (r:= .string (strB ((s++([101]))++ks))) rfl (fun w=>str_add (a:=s++([101])) (b:=ks) (by simp only [List.length_append,List.length_cons,List.length_nil];omega)) (by decide) (cl (vs:= [.string (strB ((s++([101]))++ks))]) hw7 (g_aread_n h1b (by rw [h1l];omega) hr1) rfl (by kernel_rfl) fun xr188 v186 r188 e187 hw8=>?_)))))))
    obtain⟨_,_,rfl,rfl,rfl⟩:=r188
    refine mv 1 rfl (pu (v:= .float .f64 f1) rfl (by kernel_rfl) (pu (v:= .int .i64 e1) rfl (by kernel_rfl) (mv 2 rfl (ne_ (sr (mv 1 rfl (wl_op rfl rfl rfl (r:= .string (strB (s++([101,45])))) rfl (fun w=>str_add (a:=s) (b:= [101,45]) (by simp only [List.length_append,List.length_cons,List.length_nil];omega)) (by decide) (mv 1 rfl (wl_op rfl rfl rfl (r:= .string (strB ((s++([101,45]))++ks))) rfl (fun w=>str_add (a:=s++([101,45])) (b:=ks) (by simp only [List.length_append,List.length_cons,List.length_nil];omega)) (by decide) (cl (vs:= [.string (strB ((s++([101,45]))++ks))]) hw8 (g_aread_n h2b (by rw [h2l];omega) hr2) rfl (by kernel_rfl) fun xr192 v190 r192 e191 hw9=>?_))))))))))
    obtain⟨_,_,rfl,rfl,rfl⟩:=r192
    refine mv 1 rfl (pu (v:= .float .f64 0) rfl (by kernel_rfl) (pu (v:= .int .i64 5) rfl (by kernel_rfl) (mv 2 rfl (ne_ (cw_seq (sr (mv 1 rfl (wl_pureE rfl rfl (v:= .int .i64 (((strB s).size:Nat):Int)) (v':= .int .i64 ((s.length:Nat):Int)) (by decide) (by kernel_rfl) (by rw [strB_size]) (wl_ar rfl rfl rfl ((s.length+2:Nat):Int) (ai_add (a:=s.length) (b:=2) rfl rfl (by omega)) (by decide) (mv 1 rfl (wl_pureE rfl rfl (v:= .int .i64 (((strB ks).size:Nat):Int)) (v':= .int .i64 ((ks.length:Nat):Int)) (by decide) (by kernel_rfl) (by rw [strB_size]) (wl_ar rfl rfl rfl (((s.length+2)+ks.length:Nat):Int) (ai_add (a:=s.length+2) (b:=ks.length) rfl rfl (by omega)) (by decide) (wl_cmp rfl rfl rfl true (cb_gt_t (a:=(s.length+2)+ks.length) (b:=4096) rfl rfl (by omega)) (by decide) ?_)))))))))))))
    refine ne_ (cw_true rfl (sr (mv 1 rfl (wl_cmp rfl rfl rfl true (by decide) (by decide) (mv 1 rfl (ne_ (cw_ret (eo_thenR (eo_ret [.bool true] rfl ⟨rfl,trivial⟩ ?_)))))))))
    exact⟨_,rfl,rfl,hw9⟩
   · 
    obtain⟨G,hG⟩:∃f,nrB (x*((u:Nat):Int))=f:=⟨_,rfl⟩
    obtain⟨H,hH⟩:∃f,raB x ((u:Nat):Int)=f:=⟨_,rfl⟩
    have hr1:rdR ((s++ [101])++ks)=(G,0):=by have h:=h1l;rw [hs,hks] at h⊢;rw [rd_up hu (by omega) (by rw [h,←hs,←hks];omega),hG]
    have hr2:rdR ((s++ [101,45])++ks)=(H,0):=by have h:=h2l;rw [hs,hks] at h⊢;rw [rd_dn hu (by omega) (by rw [h,←hs,←hks];omega),hH]
    refine cw_region (mv 1 rfl (cl (vs:= [.int .i64 ((k:Nat):Int)]) hw5 (g_zint_Of hw5.size (by omega) (by omega)) rfl (by kernel_rfl) fun xr196 v194 r196 e195 hw6=>?_))
    obtain⟨s197,A197,n197,c197,rfl,z197⟩:=r196
    refine cl (vs:= [.agg #[.bool s197,.slice A197 n197 c197]]) hw6 (g_ztext_k hks z197.zi (z197.le (Nat.le_trans (show ln ((k:Nat):Int)≤1 by rw [ln_nat];exact len_w64a (by omega)) (by decide))) (hS.ext hw6)) rfl (by kernel_rfl) fun xr200 v198 r200 e199 hw7=>?_
    obtain rfl:=r200
    refine mv 1 rfl (ne_ (sr (mv 1 rfl (wl_op rfl rfl rfl (r:= .string (strB (s++([101])))) rfl (fun w=>str_add (a:=s) (b:= [101]) (by simp only [List.length_append,List.length_cons,List.length_nil];omega)) (by decide) (mv 1 rfl (wl_op rfl rfl rfl (r:= .string (strB ((s++([101]))++ks))) rfl (fun w=>str_add (a:=s++([101])) (b:=ks) (by simp only [List.length_append,List.length_cons,List.length_nil];omega)) (by decide) (cl (vs:= [.string (strB ((s++([101]))++ks))]) hw7 (g_aread_n h1b (by rw [h1l];omega) hr1) rfl (by kernel_rfl) fun xr203 v201 r203 e202 hw8=>?_)))))))
    obtain⟨_,_,rfl,rfl,rfl⟩:=r203
    refine mv 1 rfl (pu (v:= .float .f64 G) rfl (by kernel_rfl) (pu (v:= .int .i64 0) rfl (by kernel_rfl) (mv 2 rfl (ne_ (sr (mv 1 rfl (wl_op rfl rfl rfl (r:= .string (strB (s++([101,45])))) rfl (fun w=>str_add (a:=s) (b:= [101,45]) (by simp only [List.length_append,List.length_cons,List.length_nil];omega)) (by decide) (mv 1 rfl (wl_op rfl rfl rfl (r:= .string (strB ((s++([101,45]))++ks))) rfl (fun w=>str_add (a:=s++([101,45])) (b:=ks) (by simp only [List.length_append,List.length_cons,List.length_nil];omega)) (by decide) (cl (vs:= [.string (strB ((s++([101,45]))++ks))]) hw8 (g_aread_n h2b (by rw [h2l];omega) hr2) rfl (by kernel_rfl) fun xr207 v205 r207 e206 hw9=>?_))))))))))
    obtain⟨_,_,rfl,rfl,rfl⟩:=r207
    refine mv 1 rfl (pu (v:= .float .f64 H) rfl (by kernel_rfl) (pu (v:= .int .i64 0) rfl (by kernel_rfl) (mv 2 rfl (ne_ (cw_seq (sr (mv 1 rfl (wl_pureE rfl rfl (v:= .int .i64 (((strB s).size:Nat):Int)) (v':= .int .i64 ((s.length:Nat):Int)) (by decide) (by kernel_rfl) (by rw [strB_size]) (wl_ar rfl rfl rfl ((s.length+2:Nat):Int) (ai_add (a:=s.length) (b:=2) rfl rfl (by omega)) (by decide) (mv 1 rfl (wl_pureE rfl rfl (v:= .int .i64 (((strB ks).size:Nat):Int)) (v':= .int .i64 ((ks.length:Nat):Int)) (by decide) (by kernel_rfl) (by rw [strB_size]) (wl_ar rfl rfl rfl (((s.length+2)+ks.length:Nat):Int) (ai_add (a:=s.length+2) (b:=ks.length) rfl rfl (by omega)) (by decide) (wl_cmp rfl rfl rfl false (cb_gt_f (a:=(s.length+2)+ks.length) (b:=4096) rfl rfl (by omega)) (by decide) ?_)))))))))))))
    refine ne_ (cw_false rfl (cw_skip (eo_then (cw_seq ?_))))
    refine cw_draw mix 7 [5,6] [Is (.agg #[.bool sa,.slice Aa na ca]),Is (.int .i64 ((k:Nat):Int)),ZR w.heap.size (((u:Nat):Int)),T2 (Is (.float .f64 H)) (Is (.int .i64 0)),Is (.tuple #[.float .f64 H,I0]),Is (.float .f64 H),Is (.int .i64 0)] [[],[],[1],[0,2],[3],[4],[4]] [[],[],[1],[0,1,2],[0,1,2,3],[0,1,2,3,4],[0,1,2,3,4],[0,1,2,3,4,5],[0,1,2,3,4,5,6,7]] rfl
     (obs_cons rfl rfl (hob rfl rfl ?_) (obs_cons rfl rfl (hob rfl rfl ?_) (obs_cons rfl rfl (hob rfl rfl ?_) (obs_cons rfl rfl (hob rfl rfl ?_) (obs_cons rfl rfl (hob rfl rfl ?_) (obs_float rfl rfl (fob rfl ?_) (obs_float rfl rfl (fob rfl ?_) obs_nil))))))) ?_
    · 
     exact fun _ e212=>deps_nil (lo aggInt (hb4.ext (e7.trans (e10.trans (e20.trans (e128.trans (e195.trans (e199.trans (e202.trans (e206.trans e212))))))))) [.bool sa,.slice Aa na ca] rfl rfl rfl (pi_done rfl (Ext.refl _) rfl))
    · 
     exact fun _ _=>deps_nil (mv 1 rfl (pi_done rfl (Ext.refl _) rfl))
    · 
     intro v215 e216
     have hw10:=hw9.trans e216
     refine dk rfl rfl (deps_nil (cl (vs:= [.int .i64 ((k:Nat):Int)]) hw10 (g_ten7 hu hw10.size (by omega)) rfl (by kernel_rfl) fun xr224 v222 r224 e223 hw11=>?_))
     obtain⟨s225,A225,n225,c225,rfl,z225⟩:=r224
     exact pi_done rfl e223 ⟨_,_,_,_,rfl,z225⟩
    · 
     intro v226 e227
     have hw10:=hw9.trans e227
     refine dk rfl rfl (deps_cons rfl rfl fun x233 y234 h235 e236 f237=>?_)
     obtain⟨s238,A238,n238,c238,rfl,z238⟩:=h235
     have z238:=z238.ext f237
     refine deps_nil (cl (vs:= [.agg #[.bool sa,.slice Aa na ca],.agg #[.bool s238,.slice A238 n238 c238]]) hw10 (g_Ratio_u hH (hx.ext hw10) (lx_ la rfl) z238.zi (z238.le (lx_ hul rfl)) hu0) rfl (by kernel_rfl) fun xr241 v239 r241 e240 hw11=>?_)
     obtain⟨_,_,rfl,rfl,rfl⟩:=r241
     exact pi_done rfl e240 ⟨_,_,rfl,rfl,rfl⟩
    · 
     intro v243 e244
     refine deps_cons rfl rfl fun x245 y246 h247 e248 f249=>?_
     obtain⟨_,_,rfl,rfl,rfl⟩:=h247
     refine deps_nil (mv 1 rfl ?_)
     exact pi_done rfl (Ext.refl _) rfl
    · 
     exact fun _ _=>dk rfl rfl (deps_nil (⟨.float .f64 H,rfl,rfl,fun _=>by kernel_rfl,rfl⟩))
    · 
     exact fun _ _=>dk rfl rfl (deps_nil (⟨.int .i64 0,rfl,rfl,fun _=>by kernel_rfl,rfl⟩))
    · 
     intro v265 e266
     have hw10:=hw9.trans e266
     refine dk rfl rfl (dk rfl rfl (deps_cons rfl rfl fun x277 y278 h279 e280 f281=>?_))
     obtain⟨s282,A282,n282,c282,rfl,z282⟩:=h279
     have z282:=z282.ext f281
     refine deps_cons rfl rfl fun x283 y284 h285 e286 f287=>?_
     obtain⟨_,_,rfl,rfl,rfl⟩:=h285
     refine dk rfl rfl (dk rfl rfl (dk rfl rfl (deps_nil (mv 2 rfl (wl_nil (eo_np (eo_then (cw_seq ?_))))))))
     have L305:ln (x*((u:Nat):Int))≤1053577:=Nat.le_trans (ln_mul Lx hul) (by decide)
     refine cw_draw mix 24 [] [Is (.int .i64 0),Is (.bool true),Is (.bool true),Is (.int .i64 0),Is (.bool true),Is (.bool true),Is (.bool true),Is (.float .f64 G),Is (.int .u64 ((btB G:Nat):Int)),Is (.agg #[.bool sa,.slice Aa na ca]),Is (.int .i64 ((k:Nat):Int)),ZR w.heap.size (((u:Nat):Int)),ZR w.heap.size (x*((u:Nat):Int)),Is (.float .f64 G),Is (.int .u64 ((btB G:Nat):Int)),Is (.bool true),Is (.bool true),Is (.bool true),Is (.float .f64 H),Is (.int .u64 ((btB H:Nat):Int)),Is (.float .f64 H),Is (.int .u64 ((btB H:Nat):Int)),Is (.bool true),Is (.bool true)] [[],[0],[1],[2],[2,3],[2,4],[5],[6],[6,7],[6],[6],[6,10],[6,9,11],[6,12],[6,13],[6,8,14],[6,15],[16],[17],[17,18],[17],[17,20],[17,19,21],[17,22]] [[],[0],[0,1],[0,1,2],[0,1,2,3],[0,1,2,3,4],[0,1,2,3,4,5],[0,1,2,3,4,5,6],[0,1,2,3,4,5,6,7],[0,1,2,3,4,5,6],[0,1,2,3,4,5,6],[0,1,2,3,4,5,6,7,8,10],[0,1,2,3,4,5,6,7,8,9,10,11],[0,1,2,3,4,5,6,7,8,9,10,11,12],[0,1,2,3,4,5,6,7,8,9,10,11,12,13],[0,1,2,3,4,5,6,7,8,9,10,11,12,13,14],[0,1,2,3,4,5,6,7,8,9,10,11,12,13,14,15],[0,1,2,3,4,5,6,7,8,9,10,11,12,13,14,15,16],[0,1,2,3,4,5,6,7,8,9,10,11,12,13,14,15,16,17],[0,1,2,3,4,5,6,7,8,9,10,11,12,13,14,15,16,17,18],[0,1,2,3,4,5,6,7,8,9,10,11,12,13,14,15,16,17],[0,1,2,3,4,5,6,7,8,9,10,11,12,13,14,15,16,17,18,19,20],[0,1,2,3,4,5,6,7,8,9,10,11,12,13,14,15,16,17,18,19,20,21],[0,1,2,3,4,5,6,7,8,9,10,11,12,13,14,15,16,17,18,19,20,21,22],[0,1,2,3,4,5,6,7,8,9,10,11,12,13,14,15,16,17,18,19,20,21,22,23]] rfl
      (obs_cons rfl rfl (hob rfl rfl ?_) (obs_cons rfl rfl (hob rfl rfl ?_) (obs_cons rfl rfl (hob rfl rfl ?_) (obs_cons rfl rfl (hob rfl rfl ?_) (obs_cons rfl rfl (hob rfl rfl ?_) (obs_cons rfl rfl (hob rfl rfl ?_) (obs_cons rfl rfl (hob rfl rfl ?_) (obs_cons rfl rfl (hob rfl rfl ?_) (obs_cons rfl rfl (hob rfl rfl ?_) (obs_cons rfl rfl (hob rfl rfl ?_) (obs_cons rfl rfl (hob rfl rfl ?_) (obs_cons rfl rfl (hob rfl rfl ?_) (obs_cons rfl rfl (hob rfl rfl ?_) (obs_cons rfl rfl (hob rfl rfl ?_) (obs_cons rfl rfl (hob rfl rfl ?_) (obs_cons rfl rfl (hob rfl rfl ?_) (obs_cons rfl rfl (hob rfl rfl ?_) (obs_cons rfl rfl (hob rfl rfl ?_) (obs_cons rfl rfl (hob rfl rfl ?_) (obs_cons rfl rfl (hob rfl rfl ?_) (obs_cons rfl rfl (hob rfl rfl ?_) (obs_cons rfl rfl (hob rfl rfl ?_) (obs_cons rfl rfl (hob rfl rfl ?_) (obs_cons rfl rfl (hob rfl rfl ?_) obs_nil)))))))))))))))))))))))) ?_
     · 
      exact fun _ _=>deps_nil (mv 1 rfl (pi_done rfl (Ext.refl _) rfl))
     · 
      exact fun _ _=>dk rfl rfl (deps_nil (wl_cmp rfl rfl rfl true (by decide) (by decide) (pi_done rfl (Ext.refl _) rfl)))
     · 
      exact fun _ _=>dk rfl rfl (deps_nil (mv 1 rfl (pi_done rfl (Ext.refl _) rfl)))
     · 
      exact fun _ _=>dk rfl rfl (deps_nil (mv 1 rfl (pi_done rfl (Ext.refl _) rfl)))
     · 
      exact fun _ _=>dk rfl rfl (dk rfl rfl (deps_nil (wl_cmp rfl rfl rfl true (by decide) (by decide) (pi_done rfl (Ext.refl _) rfl))))
     · 
      exact fun _ _=>dk rfl rfl (dk rfl rfl (deps_nil (pu (v:= .bool true) rfl (by kernel_rfl) (pi_done rfl (Ext.refl _) rfl))))
     · 
      exact fun _ _=>dk rfl rfl (deps_nil (mv 1 rfl (pi_done rfl (Ext.refl _) rfl)))
     · 
      exact fun _ _=>dk rfl rfl (deps_nil (mv 1 rfl (pi_done rfl (Ext.refl _) rfl)))
     · 
      intro v368 e369
      have hw11:=hw10.trans e369
      refine dk rfl rfl (dk rfl rfl (deps_nil (cl (vs:= [.float .f64 G]) hw11 (g_bits7 (f:=G)) rfl (by kernel_rfl) fun xr382 v380 r382 e381 hw12=>?_)))
      obtain rfl:=r382
      exact pi_done rfl e381 rfl
     · 
      exact fun _ e384=>dk rfl rfl (deps_nil (lo aggInt (hb4.ext (e7.trans (e10.trans (e20.trans (e128.trans (e195.trans (e199.trans (e202.trans (e206.trans (e266.trans e384)))))))))) [.bool sa,.slice Aa na ca] rfl rfl rfl (pi_done rfl (Ext.refl _) rfl)))
     · 
      exact fun _ _=>dk rfl rfl (deps_nil (mv 1 rfl (pi_done rfl (Ext.refl _) rfl)))
     · 
      intro v397 e398
      have hw11:=hw10.trans e398
      refine dk rfl rfl (dk rfl rfl (deps_nil (cl (vs:= [.int .i64 ((k:Nat):Int)]) hw11 (g_ten7 hu hw11.size (by omega)) rfl (by kernel_rfl) fun xr411 v409 r411 e410 hw12=>?_)))
      obtain⟨s412,A412,n412,c412,rfl,z412⟩:=r411
      exact pi_done rfl e410 ⟨_,_,_,_,rfl,z412⟩
     · 
      intro v413 e414
      have hw11:=hw10.trans e414
      refine dk rfl rfl (dk rfl rfl (deps_cons rfl rfl fun x425 y426 h427 e428 f429=>?_))
      obtain⟨s430,A430,n430,c430,rfl,z430⟩:=h427
      have z430:=z430.ext f429
      refine deps_nil ?_
      have L431:ln (x*((u:Nat):Int))≤1053577:=Nat.le_trans (ln_mul Lx hul) (by decide)
      refine cl (vs:= [.agg #[.bool sa,.slice Aa na ca],.agg #[.bool s430,.slice A430 n430 c430]]) hw11 (g_zint_Mul hw11.size (hx.ext hw11) (lx_ la rfl) z430.zi (z430.le (lx_ hul rfl))) rfl (by kernel_rfl) fun xr434 v432 r434 e433 hw12=>?_
      obtain⟨s435,A435,n435,c435,rfl,z435⟩:=r434
      exact pi_done rfl e433 ⟨_,_,_,_,rfl,z435⟩
     · 
      intro v436 e437
      have hw11:=hw10.trans e437
      refine dk rfl rfl (deps_cons rfl rfl fun x443 y444 h445 e446 f447=>?_)
      obtain⟨s448,A448,n448,c448,rfl,z448⟩:=h445
      have z448:=z448.ext f447
      refine deps_nil (cl (vs:= [.agg #[.bool s448,.slice A448 n448 c448]]) hw11 (g_Near_u hG z448.zi (z448.le (lx_ L305 rfl))) rfl (by kernel_rfl) fun xr451 v449 r451 e450 hw12=>?_)
      obtain rfl:=r451
      exact pi_done rfl e450 rfl
     · 
      intro v452 e453
      have hw11:=hw10.trans e453
      refine dk rfl rfl (dk rfl rfl (deps_nil (cl (vs:= [.float .f64 G]) hw11 (g_bits7 (f:=G)) rfl (by kernel_rfl) fun xr466 v464 r466 e465 hw12=>?_)))
      obtain rfl:=r466
      exact pi_done rfl e465 rfl
     · 
      exact fun _ _=>dk rfl rfl (dk rfl rfl (dk rfl rfl (deps_nil (wl_cmp rfl rfl rfl true (cb_eq_t (a:=btB G) (b:=btB G) rfl rfl (by omega)) (by decide) (pi_done rfl (Ext.refl _) rfl)))))
     · 
      exact fun _ _=>dk rfl rfl (dk rfl rfl (deps_nil (pu (v:= .bool true) rfl (by kernel_rfl) (pi_done rfl (Ext.refl _) rfl))))
     · 
      exact fun _ _=>dk rfl rfl (deps_nil (mv 1 rfl (pi_done rfl (Ext.refl _) rfl)))
     · 
      exact fun _ _=>dk rfl rfl (deps_nil (mv 1 rfl (pi_done rfl (Ext.refl _) rfl)))
     · 
      intro v510 e511
      have hw11:=hw10.trans e511
      refine dk rfl rfl (dk rfl rfl (deps_nil (cl (vs:= [.float .f64 H]) hw11 (g_bits7 (f:=H)) rfl (by kernel_rfl) fun xr524 v522 r524 e523 hw12=>?_)))
      obtain rfl:=r524
      exact pi_done rfl e523 rfl
     · 
      exact fun _ _=>dk rfl rfl (deps_nil (mv 1 rfl (pi_done rfl (Ext.refl _) rfl)))
     · 
      intro v532 e533
      have hw11:=hw10.trans e533
      refine dk rfl rfl (dk rfl rfl (deps_nil (cl (vs:= [.float .f64 H]) hw11 (g_bits7 (f:=H)) rfl (by kernel_rfl) fun xr546 v544 r546 e545 hw12=>?_)))
      obtain rfl:=r546
      exact pi_done rfl e545 rfl
     · 
      exact fun _ _=>dk rfl rfl (dk rfl rfl (dk rfl rfl (deps_nil (wl_cmp rfl rfl rfl true (cb_eq_t (a:=btB H) (b:=btB H) rfl rfl (by omega)) (by decide) (pi_done rfl (Ext.refl _) rfl)))))
     · 
      exact fun _ _=>dk rfl rfl (dk rfl rfl (deps_nil (pu (v:= .bool true) rfl (by kernel_rfl) (pi_done rfl (Ext.refl _) rfl))))
     · 
      intro v576 e577
      have hw11:=hw10.trans e577
      refine dk rfl rfl (dk rfl rfl (dk rfl rfl (dk rfl rfl (dk rfl rfl (dk rfl rfl (dk rfl rfl (dk rfl rfl (dk rfl rfl (dk rfl rfl (dk rfl rfl (deps_cons rfl rfl fun x633 y634 h635 e636 f637=>?_)))))))))))
      obtain⟨s638,A638,n638,c638,rfl,z638⟩:=h635
      have z638:=z638.ext f637
      refine deps_cons rfl rfl fun x639 y640 h641 e642 f643=>?_
      obtain⟨s644,A644,n644,c644,rfl,z644⟩:=h641
      have z644:=z644.ext f643
      refine dk rfl rfl (dk rfl rfl (dk rfl rfl (dk rfl rfl (dk rfl rfl (dk rfl rfl (dk rfl rfl (dk rfl rfl (dk rfl rfl (dk rfl rfl (dk rfl rfl (deps_nil (mv 1 rfl (wl_nil ?_)))))))))))))
      refine eo_np (eo_then (cw_ret (eo_ret [.bool true] rfl ⟨rfl,trivial⟩ ?_)))
      exact⟨_,rfl,rfl,hw11⟩
set_option maxHeartbeats 8000000 in
set_option maxRecDepth 20000 in
theorem law_ApproxTextsB {w:World}{k:Int}{sa:Bool}{Aa:Option Addr}{na ca:Nat}{x:Int}(hx:Zi w sa Aa na ca x) (la:na≤1048576) (hS:Signs w) (hk:k<0∨5000<k):
    Calls Tryd.prog 5 #[.agg #[.bool sa,.slice Aa na ca],.int .i64 k] w (Gv w (Is (.bool true))):=by
 have Lx:ln x≤1048576:=Nat.le_trans hx.ln la
 refine sx_enter Tryd.func5 rfl (n:=108) rfl (bq rfl) (args:= [.agg #[.bool sa,.slice Aa na ca],.int .i64 k]) (cw_keep [(0,.agg #[.bool sa,.slice Aa na ca]),(1,.int .i64 k)] ⟨rfl,rfl,trivial⟩ (sr (bx [.bool sa,.slice Aa na ca] (Ext.refl w) rfl rfl rfl fun g1 v2 hb4 ge5 e3 hw1=>(mv 1 rfl (ne_ (cw_seq (sr (wl_call rfl rfl (vs:= []) (by kernel_rfl) (by decide) g_awake7 ?_))))))))
 rintro _ v6 ⟨xr8,rfl,r8,e7⟩
 refine ret_intro ?_
 have hw2:=hw1.trans e7
 obtain rfl:=r8
 refine pu (v:= .bool false) rfl (by kernel_rfl) (ne_ (cw_false rfl (cw_skip (eo_then (cw_seq ?_)))))
 obtain⟨s,hs⟩:∃s,s=txtZ x:=⟨_,rfl⟩
 have hs256:∀b,b∈s→b<256:=hs▸txtZ_lt7
 have hsl:s.length≤67108866:=hs▸txtZ_len7 Lx
 refine cw_region (lo aggInt (hb4.ext e7) [.bool sa,.slice Aa na ca] rfl rfl rfl (cl (vs:= [.agg #[.bool sa,.slice Aa na ca]]) hw2 (g_ztxt_s hs (hx.ext hw2) (lx_ la rfl) (hS.ext hw2)) rfl (by kernel_rfl) fun xr11 v9 r11 e10 hw3=>?_))
 obtain rfl:=r11
 refine mv 1 rfl (ne_ (cw_seq ?_))
 by_cases hlong:s.length>4096
 · 
  have hr0:=rdR_long hlong
  have hb0:btB 0=0:=rfl
  refine cw_region (mv 1 rfl (cl (vs:= [.string (strB s)]) hw3 (g_aread_n hs256 (by omega) hr0) rfl (by kernel_rfl) fun xr14 v12 r14 e13 hw4=>?_))
  obtain⟨_,_,rfl,rfl,rfl⟩:=r14
  refine mv 1 rfl (pu (v:= .float .f64 0) rfl (by kernel_rfl) (pu (v:= .int .i64 5) rfl (by kernel_rfl) (mv 2 rfl (ne_ (cw_seq (sr (mv 1 rfl (wl_pureE rfl rfl (v:= .int .i64 (((strB s).size:Nat):Int)) (v':= .int .i64 ((s.length:Nat):Int)) (by decide) (by kernel_rfl) (by rw [strB_size]) (wl_cmp rfl rfl rfl true (cb_gt_t (a:=s.length) (b:=4096) rfl rfl (by omega)) (by decide) (ne_ (cw_true rfl (sr (mv 1 rfl ?_)))))))))))))
  refine wl_cmp rfl rfl rfl true (by decide) (by decide) (mv 2 rfl (cl (vs:= [.float .f64 0]) hw4 (g_bits7 (f:=0)) rfl (by kernel_rfl) fun xr18 v16 r18 e17 hw5=>?_))
  obtain rfl:=r18
  refine wl_cmp rfl rfl rfl true (cb_eq_t (a:=btB 0) (b:=0) rfl rfl (by omega)) (by decide) (pu (v:= .bool true) rfl (by kernel_rfl) (mv 1 rfl (ne_ (cw_ret (eo_thenR (eo_ret [.bool true] rfl ⟨rfl,trivial⟩ ?_))))))
  exact⟨_,rfl,rfl,hw5⟩
 · 
  obtain⟨F0,hF0⟩:∃f,nrB x=f:=⟨_,rfl⟩
  have hr0:rdR s=(F0,0):=by rw [hs] at hlong⊢;rw [rd_int hlong,hF0]
  refine cw_region (mv 1 rfl (cl (vs:= [.string (strB s)]) hw3 (g_aread_n hs256 (by omega) hr0) rfl (by kernel_rfl) fun xr21 v19 r21 e20 hw4=>?_))
  obtain⟨_,_,rfl,rfl,rfl⟩:=r21
  refine mv 1 rfl (pu (v:= .float .f64 F0) rfl (by kernel_rfl) (pu (v:= .int .i64 0) rfl (by kernel_rfl) (mv 2 rfl (ne_ (cw_seq (sr (mv 1 rfl (wl_pureE rfl rfl (v:= .int .i64 (((strB s).size:Nat):Int)) (v':= .int .i64 ((s.length:Nat):Int)) (by decide) (by kernel_rfl) (by rw [strB_size]) (wl_cmp rfl rfl rfl false (cb_gt_f (a:=s.length) (b:=4096) rfl rfl (by omega)) (by decide) (ne_ (cw_false rfl (cw_skip (eo_then ?_)))))))))))))
  refine cw_seq (cw_seq ?_)
  refine cw_draw mix 10 [] [Is (.int .i64 0),Is (.bool false),Is (.bool false),Is (.float .f64 F0),Is (.int .u64 ((btB F0:Nat):Int)),Is (.agg #[.bool sa,.slice Aa na ca]),Is (.float .f64 F0),Is (.int .u64 ((btB F0:Nat):Int)),Is (.bool false),Is (.bool false)] [[],[0],[1],[2],[2,3],[2],[2,5],[2,6],[2,4,7],[2,8]] [[],[0],[0,1],[0,1,2],[0,1,2,3],[0,1,2],[0,1,2,3,4,5],[0,1,2,3,4,5,6],[0,1,2,3,4,5,6,7],[0,1,2,3,4,5,6,7,8]] rfl
   (obs_cons rfl rfl (hob rfl rfl ?_) (obs_cons rfl rfl (hob rfl rfl ?_) (obs_cons rfl rfl (hob rfl rfl ?_) (obs_cons rfl rfl (hob rfl rfl ?_) (obs_cons rfl rfl (hob rfl rfl ?_) (obs_cons rfl rfl (hob rfl rfl ?_) (obs_cons rfl rfl (hob rfl rfl ?_) (obs_cons rfl rfl (hob rfl rfl ?_) (obs_cons rfl rfl (hob rfl rfl ?_) (obs_cons rfl rfl (hob rfl rfl ?_) obs_nil)))))))))) ?_
  · 
   exact fun _ _=>deps_nil (mv 1 rfl (pi_done rfl (Ext.refl _) rfl))
  · 
   exact fun _ _=>dk rfl rfl (deps_nil (wl_cmp rfl rfl rfl false (by decide) (by decide) (pi_done rfl (Ext.refl _) rfl)))
  · 
   exact fun _ _=>dk rfl rfl (deps_nil (mv 1 rfl (pi_done rfl (Ext.refl _) rfl)))
  · 
   exact fun _ _=>dk rfl rfl (deps_nil (mv 1 rfl (pi_done rfl (Ext.refl _) rfl)))
  · 
   intro v46 e47
   have hw5:=hw4.trans e47
   refine dk rfl rfl (dk rfl rfl (deps_nil (cl (vs:= [.float .f64 F0]) hw5 (g_bits7 (f:=F0)) rfl (by kernel_rfl) fun xr60 v58 r60 e59 hw6=>?_)))
   obtain rfl:=r60
   exact pi_done rfl e59 rfl
  · 
   exact fun _ e62=>dk rfl rfl (deps_nil (lo aggInt (hb4.ext (e7.trans (e10.trans (e20.trans e62)))) [.bool sa,.slice Aa na ca] rfl rfl rfl (pi_done rfl (Ext.refl _) rfl)))
  · 
   intro v68 e69
   have hw5:=hw4.trans e69
   refine dk rfl rfl (dk rfl rfl (deps_nil (cl (vs:= [.agg #[.bool sa,.slice Aa na ca]]) hw5 (g_Near_u hF0 (hx.ext hw5) (lx_ la rfl)) rfl (by kernel_rfl) fun xr82 v80 r82 e81 hw6=>?_)))
   obtain rfl:=r82
   exact pi_done rfl e81 rfl
  · 
   intro v83 e84
   have hw5:=hw4.trans e84
   refine dk rfl rfl (dk rfl rfl (deps_nil (cl (vs:= [.float .f64 F0]) hw5 (g_bits7 (f:=F0)) rfl (by kernel_rfl) fun xr97 v95 r97 e96 hw6=>?_)))
   obtain rfl:=r97
   exact pi_done rfl e96 rfl
  · 
   exact fun _ _=>dk rfl rfl (dk rfl rfl (dk rfl rfl (deps_nil (wl_cmp rfl rfl rfl false (cb_ne_f (a:=btB F0) (b:=btB F0) rfl rfl (by omega)) (by decide) (pi_done rfl (Ext.refl _) rfl)))))
  · 
   exact fun _ _=>dk rfl rfl (dk rfl rfl (deps_nil (pu (v:= .bool false) rfl (by kernel_rfl) (pi_done rfl (Ext.refl _) rfl))))
  · 
   intro v127 e128
   have hw5:=hw4.trans e128
   refine dk rfl rfl (dk rfl rfl (dk rfl rfl (dk rfl rfl (dk rfl rfl (dk rfl rfl (dk rfl rfl (dk rfl rfl (dk rfl rfl (dk rfl rfl (deps_nil (wl_nil (eo_np (eo_then ?_)))))))))))))
   refine cw_false rfl (cw_skip (eo_then (cw_seq (cw_seq ?_))))
   by_cases hk0:k<0
   · 
    refine cw_region (mv 1 rfl (wl_cmp rfl rfl rfl true (lt_t hk0) (by decide) (mv 3 rfl (pu (v:= .bool true) rfl (by kernel_rfl) (ne_ (cw_true rfl (sr (mv 1 rfl (ne_ (cw_ret (eo_thenR (eo_ret [.bool true] rfl ⟨rfl,trivial⟩ ?_))))))))))))
    exact⟨_,rfl,rfl,hw5⟩
   · 
    refine cw_region (mv 1 rfl (wl_cmp rfl rfl rfl false (lt_f (by omega)) (by decide) (mv 2 rfl (wl_cmp rfl rfl rfl true (gt_t (by omega)) (by decide) (pu (v:= .bool true) rfl (by kernel_rfl) (ne_ (cw_true rfl (sr (mv 1 rfl (ne_ (cw_ret (eo_thenR (eo_ret [.bool true] rfl ⟨rfl,trivial⟩ ?_)))))))))))))
    exact⟨_,rfl,rfl,hw5⟩
theorem law_ApproxTexts {w:World}{s:Bool}{A:Option Addr}{n cap:Nat}{x:Int}(hx:Zi w s A n cap x) (la:n≤1048576){k:Int}(_: -9223372036854775808≤k) (_:k≤9223372036854775807) (hS:Signs w):Calls Tryd.prog 5 #[.agg #[.bool s,.slice A n cap],.int .i64 k] w (BoolP true w):=by
 by_cases hk:k<0∨5000<k
 ·exact (law_ApproxTextsB hx la hS hk).mono fun e w' h=>gv_bool7u _ _ h
 ·obtain⟨m,rfl⟩:=Int.eq_ofNat_of_zero_le (show 0≤k by omega)
  exact (law_ApproxTextsG hx la hS (by omega)).mono fun e w' h=>gv_bool7u _ _ h
end Go.Proofs.YtipklngcpmkfhaaDoor
