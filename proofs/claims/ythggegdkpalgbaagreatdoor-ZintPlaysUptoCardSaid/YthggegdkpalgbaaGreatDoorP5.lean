/- Parts Ref4r, Ref5d, Plz, IntEb, Law5d, Pj, Ref5r, Plj, Pla, Ops5, joined. -/
import Derived.Test.YthggegdkpalgbaaGreatDoorP4

namespace Go.Proofs.YthggegdkpalgbaaGreatDoor
open Go.RowKit
set_option maxHeartbeats 4000000 in
theorem ref4_onto {w:World}{lb:Nat}{A:Option Addr}{n c base v:Nat}{ds:List Nat}(ho:Own w lb 3 1 A n c (ds.map I6)) (hlb:lb≤w.heap.size) (hwf:Wfb 65536 ds) (hbl:2≤base) (hbu:base≤36) (hn:n≤1099511627775) (hvb:v≤36):
    Calls Tryz.prog 201 #[.slice A n c,.int .i64 ((base:Nat):Int),.int .i64 ((v:Nat):Int)] w (fun e w'=>∃A' n' c',∃es:List Nat,e= .returned (.slice A' n' c')∧Own w' lb 3 1 A' n' c' (es.map I6)∧n'≤n+1∧es.length=n'∧Wfb 65536 es∧nb 65536 es=nb 65536 ds*base+v∧UpdO A w w'):=by
 have hdl:=own_len1 ho
 refine sx_enter Tryz.func201 rfl (n:=37) rfl (bq rfl) (args:= [.slice A n c,.int .i64 ((base:Nat):Int),.int .i64 ((v:Nat):Int)]) (cw_keep [(0,.slice A n c),(1,.int .i64 ((base:Nat):Int)),(2,.int .i64 ((v:Nat):Int))] ⟨rfl,rfl,rfl,trivial⟩ (sr (mv 1 rfl (ne_ (cw_seq (sr (mv 1 rfl (ne_ (cw_block ?_)))))))))
 refine cw_loop (T:=World×Nat×Nat×List Nat)
  (fun⟨wr,i,cy,l⟩=> [(0,.slice A n c),(1,.int .i64 ((base:Nat):Int)),(2,.int .i64 ((cy:Nat):Int)),(7,.int .i64 ((i:Nat):Int))])
  (fun⟨wr,i,cy,l⟩=>wr)
  (fun⟨wr,i,cy,l⟩=>(UpdO A w wr)∧(i≤n)∧(Own wr lb 3 1 A n c (l.map I6))∧(l.length=n)∧(Wfb 65536 l)∧(l.drop i=ds.drop i)∧(cy≤36)∧(nb 65536 (l.take i)+65536^i*cy=nb 65536 (ds.take i)*base+v))
  (fun⟨wr,i,cy,l⟩=>n-i)
  (⟨w,0,v,ds⟩:World×Nat×Nat×List Nat) ⟨(UpdO.refl A w),(Nat.zero_le _),ho,hdl,hwf,rfl,(by omega),(by rw [List.take_zero];simp [nb])⟩ rfl ⟨rfl,rfl,rfl,rfl,trivial⟩ ?_
 rintro⟨wr,i,cy,l⟩ ⟨hw1,hi,hO,hll,hwl,hdr,hcy,hv⟩
 refine cw_re [(0,.slice A n c),(1,.int .i64 ((base:Nat):Int)),(2,.int .i64 ((cy:Nat):Int)),(7,.int .i64 ((i:Nat):Int))] wr rfl ⟨rfl,rfl,rfl,rfl,trivial⟩ (cw_seq (cw_seq ?_))
 by_cases hlt:i<n
 · 
  refine cw_region (mv 2 rfl (pu (v:= .int .i64 ((n:Nat):Int)) rfl (by kernel_rfl) (wl_cmp rfl rfl rfl true (cb_lt_t (a:=i) (b:=n) rfl rfl (by omega)) (by decide) (ne_ (cw_true rfl (cw_skip (eo_then (cw_seq (cw_block (cw_seq ?_))))))))))
  have hdb:=Wfb_getD (b:=65536) (by decide) hwl i
  have hmu:l.getD i 0*base≤65535*36:=Nat.mul_le_mul (by omega) hbu
  refine cw_region (mv 2 rfl ?_)
  obtain⟨p2,hp2,hc2⟩:=(hO).at1 (i:=i) (by omega)
  refine wl_idx rfl rfl rfl un_int4 sz_int4 i rfl (by omega) p2 hp2 (by decide) (wl_load rfl rfl (load_cell1 ag_int2 hc2) (by decide) (mv 1 rfl (wl_ar rfl rfl rfl (((l.getD i 0)*base:Nat):Int) (ai_mul (a:=l.getD i 0) (b:=base) rfl rfl (by omega)) (by decide) (mv 1 rfl (wl_ar rfl rfl rfl ((((l.getD i 0)*base)+cy:Nat):Int) (ai_add (a:=(l.getD i 0)*base) (b:=cy) rfl rfl (by omega)) (by decide) (mv 1 rfl (ne_ (sr (mv 3 rfl (wl_ar rfl rfl rfl (((((l.getD i 0)*base)+cy)%65536:Nat):Int) (au_rem (a:=((l.getD i 0)*base)+cy) (b:=65536) rfl rfl (by omega)) (by decide) ?_))))))))))
  obtain⟨p3,hp3,hc3⟩:=(hO).at1 (i:=i) (by omega)
  refine wl_idx rfl rfl rfl un_int4 sz_int4 i rfl (by omega) p3 hp3 (by decide) ?_
  have ow4:=hO
  refine wl_setO (f:=I6) (u:=(((l.getD i 0)*base)+cy)%65536) (i:=i) rfl rfl rfl hp3 ow4 (by omega) rfl rfl sz_int4 fun v5 ho6 uo7=>?_
  have hw2:UpdO A w v5:=hw1.trans uo7
  refine ne_ (cw_region (mv 1 rfl (wl_ar rfl rfl rfl (((((l.getD i 0)*base)+cy)/65536:Nat):Int) (ai_quo (a:=((l.getD i 0)*base)+cy) (b:=65536) rfl rfl (by omega) (by omega)) (by decide) (mv 1 rfl (wl_nil (eo_block_normal (eo_then (cw_region (mv 1 rfl (wl_ar rfl rfl rfl ((i+1:Nat):Int) (ai_add (a:=i) (b:=1) rfl rfl (by omega)) (by decide) (mv 1 rfl (wl_nil (eo_round (⟨v5,i+1,(l.getD i 0*base+cy)/65536,l.set i ((((l.getD i 0)*base)+cy)%65536)⟩:World×Nat×Nat×List Nat) ⟨hw2,(by omega),ho6,(by rw [List.length_set];exact hll),(Wfb_set hwl _ (Nat.mod_lt _ (by decide))),(by rw [List.drop_set_of_lt (by omega)];have h:=congrArg (List.drop 1) hdr;rwa [List.drop_drop,List.drop_drop] at h),(by omega),(onto_step (by omega) (by omega) hdr hv)⟩ (show n-(i+1)<n-i by omega) rfl ⟨rfl,rfl,rfl,rfl,trivial⟩)))))))))))))
 · 
  have hin:i=n:=by omega
  rw [List.take_of_length_le (by omega),List.take_of_length_le (by omega),hin] at hv
  refine cw_region (mv 2 rfl (pu (v:= .int .i64 ((n:Nat):Int)) rfl (by kernel_rfl) (wl_cmp rfl rfl rfl false (cb_lt_f (a:=i) (b:=n) rfl rfl (by omega)) (by decide) (ne_ (cw_false rfl (cw_exit (eo_thenX (eo_loopX (eo_block_here (eo_then (cw_seq (cw_seq ?_))))))))))))
  by_cases hcy0:cy>0
  · 
   refine cw_region (mv 1 rfl (wl_cmp rfl rfl rfl true (cb_gt_t (a:=cy) (b:=0) rfl rfl (by omega)) (by decide) (ne_ (cw_true rfl (cw_region (mv 2 rfl (wl_bslice rfl rfl (by decide) (k:=1) (e:=3) [.int .i64 ((cy:Nat):Int)] (fun _=>by kernel_rfl) fun g8 v9 nb=>?_)))))))
   have hb10:=nb.bk
   have e11:=nb.ext
   clear nb
   have hw2:UpdO A w v9:=hw1.then_ext e11
   have ow12:=(hO.ext e11)
   refine wl_app rfl rfl rfl un_int4 infoInt rfl (by decide) (by decide) ow12 (Nat.le_trans hlb hw2.size) [.int .i64 ((cy:Nat):Int)] rfl (one_news _ hb10) rfl (by omega) (by decide) fun A13 c14 v15 ho16 uo17 kp18=>?_
   have hw3:UpdO A w v15:=hw2.trans uo17
   have ho19:Own v15 lb 3 1 A13 (n+1) c14 ((l++ [cy]).map I6):=by have h:=ho16;simp only [List.map_append,List.map_cons,List.map_nil] at h⊢;exact h
   refine mv 1 rfl (ne_ (sr (mv 2 rfl (ne_ (cw_ret (eo_ret [.slice A13 (n+1) c14] rfl ⟨rfl,trivial⟩ ?_))))))
   exact⟨A13,(n+1),c14,l++ [cy],rfl,ho19,(Nat.le_refl _),(by rw [List.length_append,hll];rfl),(Wfb_append hwl (fun x hx=>by rw [List.mem_singleton] at hx;omega)),(by rw [nb_snoc,hll];exact hv),hw3⟩
  · 
   refine cw_region (mv 1 rfl (wl_cmp rfl rfl rfl false (cb_gt_f (a:=cy) (b:=0) rfl rfl (by omega)) (by decide) (ne_ (cw_false rfl (cw_skip (eo_then (sr (mv 2 rfl (ne_ (cw_ret (eo_ret [.slice A n c] rfl ⟨rfl,trivial⟩ ?_)))))))))))
   exact⟨A,n,c,l,rfl,hO,(Nat.le_succ _),hll,hwl,(by rw [show cy=0 by omega,Nat.mul_zero,Nat.add_zero] at hv;exact hv),hw1⟩
theorem g_join4 {w:World}{b lb:Nat}(hb:b≤w.heap.size){A:Option Addr}{n c:Nat}{ds:List Nat}(h:Own w lb 3 1 A n c (ds.map I6)) (hw:Wfb 65536 ds) (hl:n≤1099511627775):Calls Tryz.prog 145 #[.slice A n c] w (Gv w (WR b (nb 65536 ds))):=(ref1_Join ⟨h.rv,hw⟩ hl).mono (gw hb)
theorem ref4_value_ok {w:World}{c:Nat}(hc:c≤255) (h:dv c<36):Calls Tryz.prog 200 #[.int .u8 ((c:Nat):Int)] w (Gv w (Is (.int .i64 ((dv c:Nat):Int)))):=by
 have h1:=ref4_value (w:=w) hc
 rw [if_pos h] at h1;exact h1
set_option maxHeartbeats 4000000 in
theorem ref4_Read_good {w:World}{bs:List Nat}(hbs:∀b,b∈bs→b<256) (hlen:bs.length≤17179869184){base:Nat}(hbl:2≤base) (hbu:base≤36) (hg:Good base bs):
    Calls Tryz.prog 178 #[.string (strB bs),.int .i64 ((base:Nat):Int)] w (Gv w (T2 (WR w.heap.size (vald base (bs.map dv))) (Is (.int .i64 0)))):=by
 refine sx_enter Tryz.func178 rfl (n:=36) rfl (bq rfl) (args:= [.string (strB bs),.int .i64 ((base:Nat):Int)]) (cw_keep [(0,.string (strB bs)),(1,.int .i64 ((base:Nat):Int))] ⟨rfl,rfl,trivial⟩ (sr (mv 2 rfl (ne_ (cw_seq (sr (mv 1 rfl (wl_cmp rfl rfl rfl false (cb_lt_f (a:=base) (b:=2) rfl rfl (by omega)) (by decide) (mv 2 rfl (wl_cmp rfl rfl rfl false (cb_gt_f (a:=base) (b:=36) rfl rfl (by omega)) (by decide) (pu (v:= .bool false) rfl (by kernel_rfl) (ne_ (cw_false rfl ?_)))))))))))))
 refine cw_skip (eo_then (cw_seq (cw_seq ?_)))
 have hne:=hg.1
 refine cw_region (mv 1 rfl (wl_streq (a:=bs) (b:= []) rfl rfl rfl hbs (by decide) false (strE_eql_f (hne)) (by decide) (ne_ (cw_false rfl (cw_skip (eo_then (sr (mv 1 rfl (ne_ (cw_seq (sr (mv 1 rfl (wl_nil ?_)))))))))))))
 refine eo_then (cw_block ?_)
 refine cw_loop (T:=World×Nat×List Nat×Option Addr×Nat×Nat)
  (fun⟨wr,i,l,DA,dn,dc⟩=> [(0,.string (strB bs)),(1,.int .i64 ((base:Nat):Int)),(6,.slice DA dn dc),(7,.int .i64 ((i:Nat):Int))])
  (fun⟨wr,i,l,DA,dn,dc⟩=>wr)
  (fun⟨wr,i,l,DA,dn,dc⟩=>(Ext w wr)∧(i≤bs.length)∧(Own wr w.heap.size 3 1 DA dn dc (l.map I6))∧(dn≤i)∧(Wfb 65536 l)∧(nb 65536 l=vald base ((bs.take i).map dv))∧(∀c,c∈bs.take i→dv c<base))
  (fun⟨wr,i,l,DA,dn,dc⟩=>bs.length-i)
  (⟨w,0,[],none,0,0⟩:World×Nat×List Nat×Option Addr×Nat×Nat) ⟨(Ext.refl w),(Nat.zero_le _),(Own.nil _ _ _ _),(Nat.zero_le _),(Wfb_nil _),rfl,(fun c hc=>absurd hc (by simp))⟩ rfl ⟨rfl,rfl,rfl,rfl,trivial⟩ ?_
 rintro⟨wr,i,l,DA,dn,dc⟩ ⟨hw1,hi,hD,hdn,hwl,hv,hok⟩
 refine cw_re [(0,.string (strB bs)),(1,.int .i64 ((base:Nat):Int)),(6,.slice DA dn dc),(7,.int .i64 ((i:Nat):Int))] wr rfl ⟨rfl,rfl,rfl,rfl,trivial⟩ (cw_seq (cw_seq ?_))
 by_cases hlt:i<bs.length
 · 
  refine cw_region (mv 2 rfl (wl_pureE rfl rfl (v:= .int .i64 (((strB bs).size:Nat):Int)) (v':= .int .i64 ((bs.length:Nat):Int)) (by decide) (by kernel_rfl) (by rw [strB_size]) (wl_cmp rfl rfl rfl true (cb_lt_t (a:=i) (b:=bs.length) rfl rfl (by omega)) (by decide) (ne_ (cw_true rfl (cw_skip (eo_then (cw_seq (cw_block (cw_seq ?_))))))))))
  have hc255:bs.getD i 0≤255:=by have:=hbs _ (getD_mem hlt);omega
  have hdc:=hg.2 _ (getD_mem hlt)
  refine cw_region (mv 2 rfl (wl_strix (bs:=bs) (i:=i) rfl rfl rfl Tryz.underlying9 hbs (by omega) (by decide) (cl (vs:= [.int .u8 ((bs.getD i 0:Nat):Int)]) hw1 (ref4_value_ok hc255 (Nat.lt_of_lt_of_le hdc hbu)) rfl (by kernel_rfl) fun xr4 v2 r4 e3 hw2=>?_)))
  obtain rfl:=r4
  refine mv 1 rfl (ne_ (cw_seq (sr (mv 2 rfl (wl_cmp rfl rfl rfl false (cb_ge_f (a:=dv (bs.getD i 0)) (b:=base) rfl rfl (by omega)) (by decide) (ne_ (cw_false rfl (cw_skip (eo_then (cw_region (mv 3 rfl ?_)))))))))))
  have ow5:=(hD.ext e3)
  refine wl_call rfl rfl (vs:= [.slice DA dn dc,.int .i64 ((base:Nat):Int),.int .i64 ((dv (bs.getD i 0):Nat):Int)]) (by kernel_rfl) (by decide) (ref4_onto ow5 hw2.size hwl hbl hbu (by omega) (by omega)) ?_
  rintro _ v6 ⟨A8,n9,c10,es7,rfl,ho11,hle12,hl13,hwf14,hv15,uo16⟩
  refine ret_intro ?_
  have hw3:=uo16.ext hw2 (fun p hp=>(ow5.block p hp).1)
  refine mv 1 rfl (wl_nil (eo_block_normal (eo_then (cw_region (mv 1 rfl (wl_ar rfl rfl rfl ((i+1:Nat):Int) (ai_add (a:=i) (b:=1) rfl rfl (by omega)) (by decide) (mv 1 rfl (wl_nil (eo_round (⟨v6,i+1,es7,A8,n9,c10⟩:World×Nat×List Nat×Option Addr×Nat×Nat) ⟨hw3,(by omega),ho11,(by omega),hwf14,(by rw [hv15,hv,take_snoc4 hlt,List.map_append,List.map_cons,List.map_nil,vald_snoc]),(fun c hc=>by rw [take_snoc4 hlt] at hc;rcases List.mem_append.1 hc with h | h;(· exact hok c h);(· rw [List.mem_singleton.1 h];exact hdc))⟩ (show bs.length-(i+1)<bs.length-i by omega) rfl ⟨rfl,rfl,rfl,rfl,trivial⟩)))))))))
 · 
  have hie:i=bs.length:=by omega
  rw [hie,List.take_length] at hok hv
  refine cw_region (mv 2 rfl (wl_pureE rfl rfl (v:= .int .i64 (((strB bs).size:Nat):Int)) (v':= .int .i64 ((bs.length:Nat):Int)) (by decide) (by kernel_rfl) (by rw [strB_size]) (wl_cmp rfl rfl rfl false (cb_lt_f (a:=i) (b:=bs.length) rfl rfl (by omega)) (by decide) (ne_ (cw_false rfl (cw_exit (eo_thenX (eo_loopX (eo_block_here (eo_then (sr (mv 1 rfl (wl_call rfl rfl (vs:= [.slice DA dn dc]) (by kernel_rfl) (by decide) (by have h:=g_join4 hw1.size hD hwl (by omega);rw [hv] at h;exact h) ?_)))))))))))))
  rintro _ v18 ⟨xr20,rfl,r20,e19⟩
  refine ret_intro ?_
  have hw2:=hw1.trans e19
  obtain⟨A21,n21,c21,rfl,j21,o21⟩:=r20
  refine mv 2 rfl (ne_ (cw_ret (eo_ret [.slice A21 n21 c21,I0] rfl ⟨rfl,rfl,trivial⟩ ?_)))
  exact⟨_,rfl,⟨_,_,rfl,⟨_,_,_,rfl,j21,o21⟩,rfl⟩,hw2⟩
set_option maxHeartbeats 4000000 in
theorem ref4_Read_bad {w:World}{bs:List Nat}(hbs:∀b,b∈bs→b<256) (hlen:bs.length≤17179869184){base:Nat}(hbl:2≤base) (hbu:base≤36) (hg:¬Good base bs):
    Calls Tryz.prog 178 #[.string (strB bs),.int .i64 ((base:Nat):Int)] w (Gv w (T2 (Is (.slice none 0 0)) (Is (.int .i64 7)))):=by
 refine sx_enter Tryz.func178 rfl (n:=36) rfl (bq rfl) (args:= [.string (strB bs),.int .i64 ((base:Nat):Int)]) (cw_keep [(0,.string (strB bs)),(1,.int .i64 ((base:Nat):Int))] ⟨rfl,rfl,trivial⟩ (sr (mv 2 rfl (ne_ (cw_seq (sr (mv 1 rfl (wl_cmp rfl rfl rfl false (cb_lt_f (a:=base) (b:=2) rfl rfl (by omega)) (by decide) (mv 2 rfl (wl_cmp rfl rfl rfl false (cb_gt_f (a:=base) (b:=36) rfl rfl (by omega)) (by decide) (pu (v:= .bool false) rfl (by kernel_rfl) (ne_ (cw_false rfl ?_)))))))))))))
 refine cw_skip (eo_then (cw_seq (cw_seq ?_)))
 by_cases hne:bs= []
 · 
  refine cw_region (mv 1 rfl (wl_streq (a:=bs) (b:= []) rfl rfl rfl hbs (by decide) true (strE_eql_t (hne)) (by decide) (ne_ (cw_true rfl (sr (mv 2 rfl (ne_ (cw_ret (eo_thenR (eo_ret [S0,.int .i64 7] rfl ⟨rfl,rfl,trivial⟩ ?_))))))))))
  exact⟨_,rfl,⟨_,_,rfl,rfl,rfl⟩,(Ext.refl w)⟩
 · 
  refine cw_region (mv 1 rfl (wl_streq (a:=bs) (b:= []) rfl rfl rfl hbs (by decide) false (strE_eql_f (hne)) (by decide) (ne_ (cw_false rfl (cw_skip (eo_then (sr (mv 1 rfl (ne_ (cw_seq (sr (mv 1 rfl (wl_nil ?_)))))))))))))
  refine eo_then (cw_block ?_)
  refine cw_loop (T:=World×Nat×List Nat×Option Addr×Nat×Nat)
   (fun⟨wr,i,l,DA,dn,dc⟩=> [(0,.string (strB bs)),(1,.int .i64 ((base:Nat):Int)),(6,.slice DA dn dc),(7,.int .i64 ((i:Nat):Int))])
   (fun⟨wr,i,l,DA,dn,dc⟩=>wr)
   (fun⟨wr,i,l,DA,dn,dc⟩=>(Ext w wr)∧(i≤bs.length)∧(Own wr w.heap.size 3 1 DA dn dc (l.map I6))∧(dn≤i)∧(Wfb 65536 l)∧(nb 65536 l=vald base ((bs.take i).map dv))∧(∀c,c∈bs.take i→dv c<base))
   (fun⟨wr,i,l,DA,dn,dc⟩=>bs.length-i)
   (⟨w,0,[],none,0,0⟩:World×Nat×List Nat×Option Addr×Nat×Nat) ⟨(Ext.refl w),(Nat.zero_le _),(Own.nil _ _ _ _),(Nat.zero_le _),(Wfb_nil _),rfl,(fun c hc=>absurd hc (by simp))⟩ rfl ⟨rfl,rfl,rfl,rfl,trivial⟩ ?_
  rintro⟨wr,i,l,DA,dn,dc⟩ ⟨hw1,hi,hD,hdn,hwl,hv,hok⟩
  refine cw_re [(0,.string (strB bs)),(1,.int .i64 ((base:Nat):Int)),(6,.slice DA dn dc),(7,.int .i64 ((i:Nat):Int))] wr rfl ⟨rfl,rfl,rfl,rfl,trivial⟩ (cw_seq (cw_seq ?_))
  by_cases hlt:i<bs.length
  · 
   refine cw_region (mv 2 rfl (wl_pureE rfl rfl (v:= .int .i64 (((strB bs).size:Nat):Int)) (v':= .int .i64 ((bs.length:Nat):Int)) (by decide) (by kernel_rfl) (by rw [strB_size]) (wl_cmp rfl rfl rfl true (cb_lt_t (a:=i) (b:=bs.length) rfl rfl (by omega)) (by decide) (ne_ (cw_true rfl (cw_skip (eo_then (cw_seq (cw_block (cw_seq ?_))))))))))
   have hc255:bs.getD i 0≤255:=by have:=hbs _ (getD_mem hlt);omega
   by_cases hdc:dv (bs.getD i 0)<base
   · 
    refine cw_region (mv 2 rfl (wl_strix (bs:=bs) (i:=i) rfl rfl rfl Tryz.underlying9 hbs (by omega) (by decide) (cl (vs:= [.int .u8 ((bs.getD i 0:Nat):Int)]) hw1 (ref4_value_ok hc255 (Nat.lt_of_lt_of_le hdc hbu)) rfl (by kernel_rfl) fun xr4 v2 r4 e3 hw2=>?_)))
    obtain rfl:=r4
    refine mv 1 rfl (ne_ (cw_seq (sr (mv 2 rfl (wl_cmp rfl rfl rfl false (cb_ge_f (a:=dv (bs.getD i 0)) (b:=base) rfl rfl (by omega)) (by decide) (ne_ (cw_false rfl (cw_skip (eo_then (cw_region (mv 3 rfl ?_)))))))))))
    have ow5:=(hD.ext e3)
    refine wl_call rfl rfl (vs:= [.slice DA dn dc,.int .i64 ((base:Nat):Int),.int .i64 ((dv (bs.getD i 0):Nat):Int)]) (by kernel_rfl) (by decide) (ref4_onto ow5 hw2.size hwl hbl hbu (by omega) (by omega)) ?_
    rintro _ v6 ⟨A8,n9,c10,es7,rfl,ho11,hle12,hl13,hwf14,hv15,uo16⟩
    refine ret_intro ?_
    have hw3:=uo16.ext hw2 (fun p hp=>(ow5.block p hp).1)
    refine mv 1 rfl (wl_nil (eo_block_normal (eo_then (cw_region (mv 1 rfl (wl_ar rfl rfl rfl ((i+1:Nat):Int) (ai_add (a:=i) (b:=1) rfl rfl (by omega)) (by decide) (mv 1 rfl (wl_nil (eo_round (⟨v6,i+1,es7,A8,n9,c10⟩:World×Nat×List Nat×Option Addr×Nat×Nat) ⟨hw3,(by omega),ho11,(by omega),hwf14,(by rw [hv15,hv,take_snoc4 hlt,List.map_append,List.map_cons,List.map_nil,vald_snoc]),(fun c hc=>by rw [take_snoc4 hlt] at hc;rcases List.mem_append.1 hc with h | h;(· exact hok c h);(· rw [List.mem_singleton.1 h];exact hdc))⟩ (show bs.length-(i+1)<bs.length-i by omega) rfl ⟨rfl,rfl,rfl,rfl,trivial⟩)))))))))
   · 
    refine cw_region (mv 2 rfl (wl_strix (bs:=bs) (i:=i) rfl rfl rfl Tryz.underlying9 hbs (by omega) (by decide) (cl (vs:= [.int .u8 ((bs.getD i 0:Nat):Int)]) hw1 (ref4_value hc255) rfl (by kernel_rfl) fun xr20 v18 r20 e19 hw2=>?_)))
    obtain rfl:=r20
    refine mv 1 rfl (ne_ (cw_seq (sr (mv 2 rfl (wl_cmp rfl rfl rfl true (ge_t (by split <;> omega)) (by decide) (ne_ (cw_true rfl (sr (mv 2 rfl (ne_ (cw_ret (eo_thenR (eo_block_ret ?_)))))))))))))
    refine eo_thenR (eo_loopR (eo_block_ret (eo_thenR (eo_ret [S0,.int .i64 7] rfl ⟨rfl,rfl,trivial⟩ ?_))))
    exact⟨_,rfl,⟨_,_,rfl,rfl,rfl⟩,hw2⟩
  · 
   have hie:i=bs.length:=by omega
   rw [hie,List.take_length] at hok hv
   exact absurd ⟨hne,hok⟩ hg
set_option maxHeartbeats 4000000 in
theorem ref4_ReadDec_good {w:World}{bs:List Nat}(hbs:∀b,b∈bs→b<256) (hlen:bs.length≤17179869184) (hg:Good 10 bs):
    Calls Tryz.prog 150 #[.string (strB bs)] w (Gv w (T2 (WR w.heap.size (vald 10 (bs.map dv))) (Is (.int .i64 0)))):=by
 refine sx_enter Tryz.func150 rfl (n:=8) rfl (bq rfl) (args:= [.string (strB bs)]) (cw_keep [(0,.string (strB bs))] ⟨rfl,trivial⟩ (sr (mv 2 rfl (ne_ (sr (mv 1 rfl (cl (vs:= [.string (strB bs),.int .i64 10]) (Ext.refl w) (ref4_Read_good hbs hlen (by decide) (by decide) hg) rfl (by kernel_rfl) fun xr3 v1 r3 e2 hw1=>?_)))))))
 obtain⟨_,_,rfl,⟨A5,n5,c5,rfl,j5,o5⟩,rfl⟩:=r3
 refine pu (v:= .slice A5 n5 c5) rfl (by kernel_rfl) (pu (v:= .int .i64 0) rfl (by kernel_rfl) (mv 2 rfl (ne_ (cw_ret (eo_ret [.slice A5 n5 c5,I0] rfl ⟨rfl,rfl,trivial⟩ ?_)))))
 exact⟨_,rfl,⟨_,_,rfl,⟨_,_,_,rfl,j5,o5⟩,rfl⟩,hw1⟩
set_option maxHeartbeats 4000000 in
theorem ref4_ReadDec_bad {w:World}{bs:List Nat}(hbs:∀b,b∈bs→b<256) (hlen:bs.length≤17179869184) (hg:¬Good 10 bs):
    Calls Tryz.prog 150 #[.string (strB bs)] w (Gv w (T2 (Is (.slice none 0 0)) (Is (.int .i64 7)))):=by
 refine sx_enter Tryz.func150 rfl (n:=8) rfl (bq rfl) (args:= [.string (strB bs)]) (cw_keep [(0,.string (strB bs))] ⟨rfl,trivial⟩ (sr (mv 2 rfl (ne_ (sr (mv 1 rfl (cl (vs:= [.string (strB bs),.int .i64 10]) (Ext.refl w) (ref4_Read_bad hbs hlen (by decide) (by decide) hg) rfl (by kernel_rfl) fun xr3 v1 r3 e2 hw1=>?_)))))))
 obtain⟨_,_,rfl,rfl,rfl⟩:=r3
 refine pu (v:= .slice none 0 0) rfl (by kernel_rfl) (pu (v:= .int .i64 7) rfl (by kernel_rfl) (mv 2 rfl (ne_ (cw_ret (eo_ret [S0,.int .i64 7] rfl ⟨rfl,rfl,trivial⟩ ?_)))))
 exact⟨_,rfl,⟨_,_,rfl,rfl,rfl⟩,hw1⟩
set_option maxHeartbeats 4000000 in
theorem g_zint_Pow_neg {w:World}{sa:Bool}{Aa:Option Addr}{na ca:Nat}{x:Int}{b:Nat}(hb:b≤w.heap.size) (hx:Zi w sa Aa na ca x) (la:na≤1048576){n:Int}(hbad:n<0):
    Calls Tryz.prog 61 #[.agg #[.bool sa,.slice Aa na ca],.int .i64 n] w (Gv w (T2 (ZR b (0)) (Is (.int .i64 3)))):=by
 refine Calls.mono (R:=Gv w (T2 (ZR w.heap.size (0)) (Is (.int .i64 3)))) ?_ (Gv.imp (T2.imp (ZR.imp hb) Is.imp))
 have Lx:ln x≤1048576:=Nat.le_trans hx.ln la
 refine sx_enter Tryz.func61 rfl (n:=28) rfl (bq rfl) (args:= [.agg #[.bool sa,.slice Aa na ca],.int .i64 n]) (cw_keep [(0,.agg #[.bool sa,.slice Aa na ca]),(1,.int .i64 n)] ⟨rfl,rfl,trivial⟩ (sr (bx [.bool sa,.slice Aa na ca] (Ext.refl w) rfl rfl rfl fun g1 v2 hb4 ge5 e3 hw1=>(alq [F0,S0] hw1 hb4.lt (fun _=>by kernel_rfl) rfl fun g6 v7 hb9 ge10 q11 e8 hw2=>(mv 1 rfl (ne_ (sr (pf g1 1 rfl (by kernel_rfl) (wl_load rfl rfl (load_cell cellWords (hb4.ext e8) rfl) (by decide) (mv 1 rfl (cl (vs:= [.slice Aa na ca,.int .i64 n]) hw2 (g_mulnat_Pow_bad3 hbad) rfl (by kernel_rfl) fun xr14 v12 r14 e13 hw3=>?_)))))))))))
 obtain⟨_,_,rfl,rfl,rfl⟩:=r14
 refine mv 1 rfl (pu (v:= .slice none 0 0) rfl (by kernel_rfl) (pu (v:= .int .i64 3) rfl (by kernel_rfl) (mv 2 rfl (ne_ (cw_seq (sr (mv 1 rfl (wl_cmp rfl rfl rfl true (by decide) (by decide) (ne_ (cw_true rfl (sr (pu (v:= .agg #[F0,S0]) rfl (by kernel_rfl) (mv 1 rfl ?_)))))))))))))
 have hb17:=(hb9.ext e13)
 refine so aggInt hb17 [F0,S0] hw3 ge10 rfl rfl rfl rfl fun v16 hb18 u19 hw4=>(mv 1 rfl (ne_ (cw_ret (eo_thenR (eo_ret [.agg #[F0,S0],.int .i64 3] rfl ⟨⟨_,rfl,load_agg aggInt hb18 [F0,S0] rfl (bq rfl) rfl⟩,rfl,trivial⟩ ?_)))))
 exact⟨_,rfl,⟨_,_,rfl,⟨_,_,_,_,rfl,((Zr.zero (w:=v12) (base:=w.heap.size)).updT hb17 u19)⟩,rfl⟩,hw4⟩
set_option maxHeartbeats 4000000 in
theorem g_zint_Pow_big {w:World}{sa:Bool}{Aa:Option Addr}{na ca:Nat}{x:Int}{b:Nat}(hb:b≤w.heap.size) (hx:Zi w sa Aa na ca x) (la:na≤1048576){n:Int}(hbad:256<n):
    Calls Tryz.prog 61 #[.agg #[.bool sa,.slice Aa na ca],.int .i64 n] w (Gv w (T2 (ZR b (0)) (Is (.int .i64 5)))):=by
 refine Calls.mono (R:=Gv w (T2 (ZR w.heap.size (0)) (Is (.int .i64 5)))) ?_ (Gv.imp (T2.imp (ZR.imp hb) Is.imp))
 have Lx:ln x≤1048576:=Nat.le_trans hx.ln la
 refine sx_enter Tryz.func61 rfl (n:=28) rfl (bq rfl) (args:= [.agg #[.bool sa,.slice Aa na ca],.int .i64 n]) (cw_keep [(0,.agg #[.bool sa,.slice Aa na ca]),(1,.int .i64 n)] ⟨rfl,rfl,trivial⟩ (sr (bx [.bool sa,.slice Aa na ca] (Ext.refl w) rfl rfl rfl fun g1 v2 hb4 ge5 e3 hw1=>(alq [F0,S0] hw1 hb4.lt (fun _=>by kernel_rfl) rfl fun g6 v7 hb9 ge10 q11 e8 hw2=>(mv 1 rfl (ne_ (sr (pf g1 1 rfl (by kernel_rfl) (wl_load rfl rfl (load_cell cellWords (hb4.ext e8) rfl) (by decide) (mv 1 rfl (cl (vs:= [.slice Aa na ca,.int .i64 n]) hw2 (g_mulnat_Pow_bad5 hbad) rfl (by kernel_rfl) fun xr14 v12 r14 e13 hw3=>?_)))))))))))
 obtain⟨_,_,rfl,rfl,rfl⟩:=r14
 refine mv 1 rfl (pu (v:= .slice none 0 0) rfl (by kernel_rfl) (pu (v:= .int .i64 5) rfl (by kernel_rfl) (mv 2 rfl (ne_ (cw_seq (sr (mv 1 rfl (wl_cmp rfl rfl rfl true (by decide) (by decide) (ne_ (cw_true rfl (sr (pu (v:= .agg #[F0,S0]) rfl (by kernel_rfl) (mv 1 rfl ?_)))))))))))))
 have hb17:=(hb9.ext e13)
 refine so aggInt hb17 [F0,S0] hw3 ge10 rfl rfl rfl rfl fun v16 hb18 u19 hw4=>(mv 1 rfl (ne_ (cw_ret (eo_thenR (eo_ret [.agg #[F0,S0],.int .i64 5] rfl ⟨⟨_,rfl,load_agg aggInt hb18 [F0,S0] rfl (bq rfl) rfl⟩,rfl,trivial⟩ ?_)))))
 exact⟨_,rfl,⟨_,_,rfl,⟨_,_,_,_,rfl,((Zr.zero (w:=v12) (base:=w.heap.size)).updT hb17 u19)⟩,rfl⟩,hw4⟩
set_option maxHeartbeats 4000000 in
theorem g_zint_Pow {w:World}{sa:Bool}{Aa:Option Addr}{na ca:Nat}{x:Int}{b:Nat}(hb:b≤w.heap.size) (hx:Zi w sa Aa na ca x) (la:na≤1048576){n:Nat}(hn:n≤256):
    Calls Tryz.prog 61 #[.agg #[.bool sa,.slice Aa na ca],.int .i64 ((n:Nat):Int)] w (Gv w (T2 (ZR b (x^n)) (Is (.int .i64 0)))):=by
 refine Calls.mono (R:=Gv w (T2 (ZR w.heap.size (x^n)) (Is (.int .i64 0)))) ?_ (Gv.imp (T2.imp (ZR.imp hb) Is.imp))
 have Lx:ln x≤1048576:=Nat.le_trans hx.ln la
 refine sx_enter Tryz.func61 rfl (n:=28) rfl (bq rfl) (args:= [.agg #[.bool sa,.slice Aa na ca],.int .i64 ((n:Nat):Int)]) (cw_keep [(0,.agg #[.bool sa,.slice Aa na ca]),(1,.int .i64 ((n:Nat):Int))] ⟨rfl,rfl,trivial⟩ (sr (bx [.bool sa,.slice Aa na ca] (Ext.refl w) rfl rfl rfl fun g1 v2 hb4 ge5 e3 hw1=>(alq [F0,S0] hw1 hb4.lt (fun _=>by kernel_rfl) rfl fun g6 v7 hb9 ge10 q11 e8 hw2=>(mv 1 rfl (ne_ (sr (pf g1 1 rfl (by kernel_rfl) (wl_load rfl rfl (load_cell cellWords (hb4.ext e8) rfl) (by decide) (mv 1 rfl ?_))))))))))
 have L12:(wd ((Int.natAbs x)^n)).length≤268435457:=pow_len5 Lx hn
 refine cl (vs:= [.slice Aa na ca,.int .i64 ((n:Nat):Int)]) hw2 (g_mulnat_Pow (hx.ext hw2).wi (lx_ la rfl) hn hw2.size) rfl (by kernel_rfl) fun xr15 v13 r15 e14 hw3=>?_
 obtain⟨_,_,rfl,⟨A17,n17,c17,rfl,j17,o17⟩,rfl⟩:=r15
 refine mv 1 rfl (pu (v:= .slice A17 n17 c17) rfl (by kernel_rfl) (pu (v:= .int .i64 0) rfl (by kernel_rfl) (mv 2 rfl (ne_ (cw_seq (sr (mv 1 rfl (wl_cmp rfl rfl rfl false (by decide) (by decide) (ne_ (cw_false rfl (cw_skip (eo_then (cw_seq ?_)))))))))))))
 by_cases hsa:sa=true
 · 
  subst hsa
  by_cases ho:n%2=1
  · 
   refine cw_region (pf g1 0 rfl (by kernel_rfl) (wl_load rfl rfl (load_cell cellBool (hb4.ext (e8.trans e14)) rfl) (by decide) (mv 2 rfl (wl_ar rfl rfl rfl ((n%2:Nat):Int) (ar_rem (by decide) (tmod_nat n 2)) (by decide) (wl_cmp rfl rfl rfl true (cb_eq_t (a:=n%2) (b:=1) rfl rfl (by omega)) (by decide) (pu (v:= .bool true) rfl (by kernel_rfl) (mv 1 rfl (cl (vs:= [.bool true,.slice A17 n17 c17]) hw3 (g_zint_of j17 o17) rfl (by kernel_rfl) fun xr20 v18 r20 e19 hw4=>?_))))))))
   obtain⟨s21,A21,n21,c21,rfl,z21⟩:=r20
   have hb23:=(hb9.ext (e14.trans e19))
   refine so aggInt hb23 [.bool s21,.slice A21 n21 c21] hw4 ge10 rfl rfl rfl rfl fun v22 hb24 u25 hw5=>(mv 1 rfl (ne_ (cw_ret (eo_ret [.agg #[.bool s21,.slice A21 n21 c21],I0] rfl ⟨⟨_,rfl,load_agg aggInt hb24 [.bool s21,.slice A21 n21 c21] rfl (bq rfl) rfl⟩,rfl,trivial⟩ ?_))))
   exact⟨_,rfl,⟨_,_,rfl,⟨_,_,_,_,rfl,((z21.updT hb23 u25)).cast (by rw [sg_pow_t ho,hx.sg])⟩,rfl⟩,hw5⟩
  · 
   refine cw_region (pf g1 0 rfl (by kernel_rfl) (wl_load rfl rfl (load_cell cellBool (hb4.ext (e8.trans e14)) rfl) (by decide) (mv 2 rfl (wl_ar rfl rfl rfl ((n%2:Nat):Int) (ar_rem (by decide) (tmod_nat n 2)) (by decide) (wl_cmp rfl rfl rfl false (cb_eq_f (a:=n%2) (b:=1) rfl rfl (by omega)) (by decide) (pu (v:= .bool false) rfl (by kernel_rfl) (mv 1 rfl (cl (vs:= [F0,.slice A17 n17 c17]) hw3 (g_zint_of j17 o17) rfl (by kernel_rfl) fun xr29 v27 r29 e28 hw4=>?_))))))))
   obtain⟨s30,A30,n30,c30,rfl,z30⟩:=r29
   have hb32:=(hb9.ext (e14.trans e28))
   refine so aggInt hb32 [.bool s30,.slice A30 n30 c30] hw4 ge10 rfl rfl rfl rfl fun v31 hb33 u34 hw5=>(mv 1 rfl (ne_ (cw_ret (eo_ret [.agg #[.bool s30,.slice A30 n30 c30],I0] rfl ⟨⟨_,rfl,load_agg aggInt hb33 [.bool s30,.slice A30 n30 c30] rfl (bq rfl) rfl⟩,rfl,trivial⟩ ?_))))
   exact⟨_,rfl,⟨_,_,rfl,⟨_,_,_,_,rfl,((z30.updT hb32 u34)).cast (by rw [sg_pow_e ho,hx.sg])⟩,rfl⟩,hw5⟩
 · 
  replace hsa:sa=false:=by simpa using hsa
  subst hsa
  refine cw_region (pf g1 0 rfl (by kernel_rfl) (wl_load rfl rfl (load_cell cellBool (hb4.ext (e8.trans e14)) rfl) (by decide) (mv 4 rfl (pu (v:= .bool false) rfl (by kernel_rfl) (mv 1 rfl (cl (vs:= [F0,.slice A17 n17 c17]) hw3 (g_zint_of j17 o17) rfl (by kernel_rfl) fun xr38 v36 r38 e37 hw4=>?_))))))
  obtain⟨s39,A39,n39,c39,rfl,z39⟩:=r38
  have hb41:=(hb9.ext (e14.trans e37))
  refine so aggInt hb41 [.bool s39,.slice A39 n39 c39] hw4 ge10 rfl rfl rfl rfl fun v40 hb42 u43 hw5=>(mv 1 rfl (ne_ (cw_ret (eo_ret [.agg #[.bool s39,.slice A39 n39 c39],I0] rfl ⟨⟨_,rfl,load_agg aggInt hb42 [.bool s39,.slice A39 n39 c39] rfl (bq rfl) rfl⟩,rfl,trivial⟩ ?_))))
  exact⟨_,rfl,⟨_,_,rfl,⟨_,_,_,_,rfl,((z39.updT hb41 u43)).cast (by rw [sg_pow_f,hx.sg])⟩,rfl⟩,hw5⟩
set_option maxHeartbeats 4000000 in
theorem g_ref5_Pow_neg {w:World}{sa:Bool}{Aa:Option Addr}{na ca:Nat}{x:Int}{b:Nat}(hb:b≤w.heap.size) (hx:Zi w sa Aa na ca x) (la:na≤1048576){n:Int}(hbad:n<0):
    Calls Tryz.prog 46 #[.agg #[.bool sa,.slice Aa na ca],.int .i64 n] w (Gv w (T2 (ZR b (0)) (Is (.int .i64 3)))):=by
 refine Calls.mono (R:=Gv w (T2 (ZR w.heap.size (0)) (Is (.int .i64 3)))) ?_ (Gv.imp (T2.imp (ZR.imp hb) Is.imp))
 have Lx:ln x≤1048576:=Nat.le_trans hx.ln la
 refine sx_enter Tryz.func46 rfl (n:=30) rfl (bq rfl) (args:= [.agg #[.bool sa,.slice Aa na ca],.int .i64 n]) (cw_keep [(0,.agg #[.bool sa,.slice Aa na ca]),(1,.int .i64 n)] ⟨rfl,rfl,trivial⟩ (sr (bx [.bool sa,.slice Aa na ca] (Ext.refl w) rfl rfl rfl fun g1 v2 hb4 ge5 e3 hw1=>(alq [F0,S0] hw1 hb4.lt (fun _=>by kernel_rfl) rfl fun g6 v7 hb9 ge10 q11 e8 hw2=>(mv 1 rfl (ne_ (cw_seq (sr (mv 1 rfl (wl_cmp rfl rfl rfl true (lt_t hbad) (by decide) (ne_ (cw_true rfl (cw_seq ?_)))))))))))))
 refine cw_region (pu (v:= .agg #[F0,S0]) rfl (by kernel_rfl) (so aggInt hb9 [F0,S0] hw2 ge10 rfl rfl rfl rfl fun v12 hb14 u15 hw3=>(mv 1 rfl (ne_ (cw_ret (eo_thenR (eo_ret [.agg #[F0,S0],.int .i64 3] rfl ⟨⟨_,rfl,load_agg aggInt hb14 [F0,S0] rfl (bq rfl) rfl⟩,rfl,trivial⟩ ?_)))))))
 exact⟨_,rfl,⟨_,_,rfl,⟨_,_,_,_,rfl,((Zr.zero (w:=v7) (base:=w.heap.size)).updT hb9 u15)⟩,rfl⟩,hw3⟩
set_option maxHeartbeats 4000000 in
theorem g_ref5_Pow_big {w:World}{sa:Bool}{Aa:Option Addr}{na ca:Nat}{x:Int}{b:Nat}(hb:b≤w.heap.size) (hx:Zi w sa Aa na ca x) (la:na≤1048576){n:Int}(hbad:256<n):
    Calls Tryz.prog 46 #[.agg #[.bool sa,.slice Aa na ca],.int .i64 n] w (Gv w (T2 (ZR b (0)) (Is (.int .i64 5)))):=by
 refine Calls.mono (R:=Gv w (T2 (ZR w.heap.size (0)) (Is (.int .i64 5)))) ?_ (Gv.imp (T2.imp (ZR.imp hb) Is.imp))
 have Lx:ln x≤1048576:=Nat.le_trans hx.ln la
 refine sx_enter Tryz.func46 rfl (n:=30) rfl (bq rfl) (args:= [.agg #[.bool sa,.slice Aa na ca],.int .i64 n]) (cw_keep [(0,.agg #[.bool sa,.slice Aa na ca]),(1,.int .i64 n)] ⟨rfl,rfl,trivial⟩ (sr (bx [.bool sa,.slice Aa na ca] (Ext.refl w) rfl rfl rfl fun g1 v2 hb4 ge5 e3 hw1=>(alq [F0,S0] hw1 hb4.lt (fun _=>by kernel_rfl) rfl fun g6 v7 hb9 ge10 q11 e8 hw2=>(mv 1 rfl (ne_ (cw_seq (sr (mv 1 rfl (wl_cmp rfl rfl rfl false (lt_f (by omega)) (by decide) (ne_ (cw_false rfl (cw_skip ?_)))))))))))))
 refine eo_then (cw_seq (sr (mv 1 rfl (wl_cmp rfl rfl rfl true (gt_t hbad) (by decide) (ne_ (cw_true rfl (sr (pu (v:= .agg #[F0,S0]) rfl (by kernel_rfl) (so aggInt hb9 [F0,S0] hw2 ge10 rfl rfl rfl rfl fun v12 hb14 u15 hw3=>(mv 1 rfl (ne_ (cw_ret (eo_thenR ?_)))))))))))))
 refine eo_ret [.agg #[F0,S0],.int .i64 5] rfl ⟨⟨_,rfl,load_agg aggInt hb14 [F0,S0] rfl (bq rfl) rfl⟩,rfl,trivial⟩ ?_
 exact⟨_,rfl,⟨_,_,rfl,⟨_,_,_,_,rfl,((Zr.zero (w:=v7) (base:=w.heap.size)).updT hb9 u15)⟩,rfl⟩,hw3⟩
set_option maxHeartbeats 4000000 in
theorem g_ref5_Pow {w:World}{sa:Bool}{Aa:Option Addr}{na ca:Nat}{x:Int}{b:Nat}(hb:b≤w.heap.size) (hx:Zi w sa Aa na ca x) (la:na≤1048576){n:Nat}(hn:n≤256):
    Calls Tryz.prog 46 #[.agg #[.bool sa,.slice Aa na ca],.int .i64 ((n:Nat):Int)] w (Gv w (T2 (ZR b (x^n)) (Is (.int .i64 0)))):=by
 refine Calls.mono (R:=Gv w (T2 (ZR w.heap.size (x^n)) (Is (.int .i64 0)))) ?_ (Gv.imp (T2.imp (ZR.imp hb) Is.imp))
 have Lx:ln x≤1048576:=Nat.le_trans hx.ln la
 refine sx_enter Tryz.func46 rfl (n:=30) rfl (bq rfl) (args:= [.agg #[.bool sa,.slice Aa na ca],.int .i64 ((n:Nat):Int)]) (cw_keep [(0,.agg #[.bool sa,.slice Aa na ca]),(1,.int .i64 ((n:Nat):Int))] ⟨rfl,rfl,trivial⟩ (sr (bx [.bool sa,.slice Aa na ca] (Ext.refl w) rfl rfl rfl fun g1 v2 hb4 ge5 e3 hw1=>(alq [F0,S0] hw1 hb4.lt (fun _=>by kernel_rfl) rfl fun g6 v7 hb9 ge10 q11 e8 hw2=>(mv 1 rfl (ne_ (cw_seq (sr (mv 1 rfl (wl_cmp rfl rfl rfl false (cb_lt_f (a:=n) (b:=0) rfl rfl (by omega)) (by decide) (ne_ (cw_false rfl (cw_skip ?_)))))))))))))
 refine eo_then (cw_seq (sr (mv 1 rfl (wl_cmp rfl rfl rfl false (cb_gt_f (a:=n) (b:=256) rfl rfl (by omega)) (by decide) (ne_ (cw_false rfl (cw_skip (eo_then (sr (pf g1 1 rfl (by kernel_rfl) (wl_load rfl rfl (load_cell cellWords (hb4.ext e8) rfl) (by decide) (mv 1 rfl ?_))))))))))))
 have L12:(wd ((Int.natAbs x)^n)).length≤268435457:=pow_len5 Lx hn
 refine cl (vs:= [.slice Aa na ca,.int .i64 ((n:Nat):Int)]) hw2 (g_ref2_Pow (hx.ext hw2).wi (lx_ la rfl) hn hw2.size) rfl (by kernel_rfl) fun xr15 v13 r15 e14 hw3=>?_
 obtain⟨_,_,rfl,⟨A17,n17,c17,rfl,j17,o17⟩,rfl⟩:=r15
 refine mv 1 rfl (pu (v:= .slice A17 n17 c17) rfl (by kernel_rfl) (pu (v:= .int .i64 0) rfl (by kernel_rfl) (mv 2 rfl (ne_ (cw_seq ?_)))))
 by_cases hsa:sa=true
 · 
  subst hsa
  by_cases ho:n%2=1
  · 
   refine cw_region (pf g1 0 rfl (by kernel_rfl) (wl_load rfl rfl (load_cell cellBool (hb4.ext (e8.trans e14)) rfl) (by decide) (mv 2 rfl (wl_ar rfl rfl rfl ((n%2:Nat):Int) (ar_rem (by decide) (tmod_nat n 2)) (by decide) (wl_cmp rfl rfl rfl true (cb_eq_t (a:=n%2) (b:=1) rfl rfl (by omega)) (by decide) (pu (v:= .bool true) rfl (by kernel_rfl) (mv 1 rfl ?_)))))))
   have L18:ln (sg true ((Int.natAbs x)^n))≤268435457:=by rw [ln_sg];exact L12
   refine cl (vs:= [.bool true,.slice A17 n17 c17]) hw3 (g_ref5_made hw3.size o17.wi (by rw [j17];exact Nat.le_trans L12 (by decide))) rfl (by kernel_rfl) fun xr21 v19 r21 e20 hw4=>?_
   obtain⟨s22,A22,n22,c22,rfl,z22⟩:=r21
   have hb24:=(hb9.ext (e14.trans e20))
   refine so aggInt hb24 [.bool s22,.slice A22 n22 c22] hw4 ge10 rfl rfl rfl rfl fun v23 hb25 u26 hw5=>(mv 1 rfl (ne_ (cw_ret (eo_ret [.agg #[.bool s22,.slice A22 n22 c22],I0] rfl ⟨⟨_,rfl,load_agg aggInt hb25 [.bool s22,.slice A22 n22 c22] rfl (bq rfl) rfl⟩,rfl,trivial⟩ ?_))))
   exact⟨_,rfl,⟨_,_,rfl,⟨_,_,_,_,rfl,((z22.updT hb24 u26)).cast (by rw [sg_pow_t ho,hx.sg])⟩,rfl⟩,hw5⟩
  · 
   refine cw_region (pf g1 0 rfl (by kernel_rfl) (wl_load rfl rfl (load_cell cellBool (hb4.ext (e8.trans e14)) rfl) (by decide) (mv 2 rfl (wl_ar rfl rfl rfl ((n%2:Nat):Int) (ar_rem (by decide) (tmod_nat n 2)) (by decide) (wl_cmp rfl rfl rfl false (cb_eq_f (a:=n%2) (b:=1) rfl rfl (by omega)) (by decide) (pu (v:= .bool false) rfl (by kernel_rfl) (mv 1 rfl ?_)))))))
   have L28:ln (sg false ((Int.natAbs x)^n))≤268435457:=by rw [ln_sg];exact L12
   refine cl (vs:= [F0,.slice A17 n17 c17]) hw3 (g_ref5_made hw3.size o17.wi (by rw [j17];exact Nat.le_trans L12 (by decide))) rfl (by kernel_rfl) fun xr31 v29 r31 e30 hw4=>?_
   obtain⟨s32,A32,n32,c32,rfl,z32⟩:=r31
   have hb34:=(hb9.ext (e14.trans e30))
   refine so aggInt hb34 [.bool s32,.slice A32 n32 c32] hw4 ge10 rfl rfl rfl rfl fun v33 hb35 u36 hw5=>(mv 1 rfl (ne_ (cw_ret (eo_ret [.agg #[.bool s32,.slice A32 n32 c32],I0] rfl ⟨⟨_,rfl,load_agg aggInt hb35 [.bool s32,.slice A32 n32 c32] rfl (bq rfl) rfl⟩,rfl,trivial⟩ ?_))))
   exact⟨_,rfl,⟨_,_,rfl,⟨_,_,_,_,rfl,((z32.updT hb34 u36)).cast (by rw [sg_pow_e ho,hx.sg])⟩,rfl⟩,hw5⟩
 · 
  replace hsa:sa=false:=by simpa using hsa
  subst hsa
  refine cw_region (pf g1 0 rfl (by kernel_rfl) (wl_load rfl rfl (load_cell cellBool (hb4.ext (e8.trans e14)) rfl) (by decide) (mv 4 rfl (pu (v:= .bool false) rfl (by kernel_rfl) (mv 1 rfl ?_)))))
  have L38:ln (sg false ((Int.natAbs x)^n))≤268435457:=by rw [ln_sg];exact L12
  refine cl (vs:= [F0,.slice A17 n17 c17]) hw3 (g_ref5_made hw3.size o17.wi (by rw [j17];exact Nat.le_trans L12 (by decide))) rfl (by kernel_rfl) fun xr41 v39 r41 e40 hw4=>?_
  obtain⟨s42,A42,n42,c42,rfl,z42⟩:=r41
  have hb44:=(hb9.ext (e14.trans e40))
  refine so aggInt hb44 [.bool s42,.slice A42 n42 c42] hw4 ge10 rfl rfl rfl rfl fun v43 hb45 u46 hw5=>(mv 1 rfl (ne_ (cw_ret (eo_ret [.agg #[.bool s42,.slice A42 n42 c42],I0] rfl ⟨⟨_,rfl,load_agg aggInt hb45 [.bool s42,.slice A42 n42 c42] rfl (bq rfl) rfl⟩,rfl,trivial⟩ ?_))))
  exact⟨_,rfl,⟨_,_,rfl,⟨_,_,_,_,rfl,((z42.updT hb44 u46)).cast (by rw [sg_pow_f,hx.sg])⟩,rfl⟩,hw5⟩
set_option maxHeartbeats 4000000 in
theorem g_ref5_Text {w:World}{sa:Bool}{Aa:Option Addr}{na ca:Nat}{x:Int}(hx:Zi w sa Aa na ca x) (la:na≤1048576):
    Calls Tryz.prog 113 #[.agg #[.bool sa,.slice Aa na ca]] w (Gv w (Is (.string (strB (txtZ x))))):=by
 have Lx:ln x≤1048576:=Nat.le_trans hx.ln la
 refine sx_enter Tryz.func113 rfl (n:=13) rfl (bq rfl) (args:= [.agg #[.bool sa,.slice Aa na ca]]) (cw_keep [(0,.agg #[.bool sa,.slice Aa na ca])] ⟨rfl,trivial⟩ (sr (bx [.bool sa,.slice Aa na ca] (Ext.refl w) rfl rfl rfl fun g1 v2 hb4 ge5 e3 hw1=>(mv 1 rfl (ne_ (sr (pf g1 1 rfl (by kernel_rfl) (wl_load rfl rfl (load_cell cellWords hb4 rfl) (by decide) (cl (vs:= [.slice Aa na ca]) hw1 (ref4_Dec (hx.ext hw1).wi (by omega)) rfl (by kernel_rfl) fun xr8 v6 r8 e7 hw2=>?_)))))))))
 obtain rfl:=r8
 refine mv 1 rfl (ne_ (cw_seq (cw_seq ?_)))
 by_cases hx0:x<0
 · 
  refine cw_region (lo aggInt (hb4.ext e7) [.bool sa,.slice Aa na ca] rfl rfl rfl (cl (vs:= [.agg #[.bool sa,.slice Aa na ca]]) hw2 (g_ref5_Sign (hx.ext hw2) (lx_ la rfl)) rfl (by kernel_rfl) fun xr11 v9 r11 e10 hw3=>?_))
  obtain rfl:=r11
  refine wl_cmp rfl rfl rfl true (scmp_lt_t hx0) (by decide) (ne_ (cw_true rfl (sr (mv 1 rfl (wl_op rfl rfl rfl (r:= .string (strB (([45])++(txtN 10 (Int.natAbs x))))) rfl (fun w=>str_add (a:= [45]) (b:=txtN 10 (Int.natAbs x)) (by have:=txtN_len (b:=10) (by decide) (show (wd (Int.natAbs x)).length≤1048576 from Lx);show 1+_≤_;omega)) (by decide) (mv 1 rfl (ne_ (cw_ret (eo_thenR (eo_ret [.string (strB (([45])++(txtN 10 (Int.natAbs x))))] rfl ⟨rfl,trivial⟩ ?_))))))))))
  exact⟨_,rfl,(show Value.string _= .string (strB (txtZ x)) by rw [txtZ,if_pos hx0]),hw3⟩
 · 
  refine cw_region (lo aggInt (hb4.ext e7) [.bool sa,.slice Aa na ca] rfl rfl rfl (cl (vs:= [.agg #[.bool sa,.slice Aa na ca]]) hw2 (g_ref5_Sign (hx.ext hw2) (lx_ la rfl)) rfl (by kernel_rfl) fun xr14 v12 r14 e13 hw3=>?_))
  obtain rfl:=r14
  refine wl_cmp rfl rfl rfl false (scmp_lt_f (by omega)) (by decide) (ne_ (cw_false rfl (cw_skip (eo_then (sr (mv 2 rfl (ne_ (cw_ret (eo_ret [.string (strB (txtN 10 (Int.natAbs x)))] rfl ⟨rfl,trivial⟩ ?_)))))))))
  exact⟨_,rfl,(show Value.string _= .string (strB (txtZ x)) by rw [txtZ,if_neg hx0]),hw3⟩
set_option maxHeartbeats 4000000 in
theorem g_law5_oneI {w:World}{sa:Bool}{Aa:Option Addr}{na ca:Nat}{x:Int}(hx:Zi w sa Aa na ca x) (la:na≤1048576):
    Calls Tryz.prog 30 #[.agg #[.bool sa,.slice Aa na ca]] w (Gv w (ZOR w.heap.size sa na x)):=by
 have hx0:=hx
 obtain⟨xs,hrx,hxe⟩:=hx0
 have Lx:ln x≤1048576:=Nat.le_trans hx.ln la
 refine sx_enter Tryz.func30 rfl (n:=10) rfl (bq rfl) (args:= [.agg #[.bool sa,.slice Aa na ca]]) (cw_keep [(0,.agg #[.bool sa,.slice Aa na ca])] ⟨rfl,trivial⟩ (sr (bx [.bool sa,.slice Aa na ca] (Ext.refl w) rfl rfl rfl fun g1 v2 hb4 ge5 e3 hw1=>(alq [F0,S0] hw1 hb4.lt (fun _=>by kernel_rfl) rfl fun g6 v7 hb9 ge10 q11 e8 hw2=>(ne_ (cw_seq ?_))))))
 refine cw_draw mix 7 [] [Is (.pointer (some ⟨g1,0,none⟩)),Is (.bool sa),fun v' w'=>∃g,v'= .slice (some ⟨g,0,none⟩) 0 0∧v7.heap.size≤g∧Bk w' g 67 [],Is (.pointer (some ⟨g1,1,none⟩)),Is (.slice Aa na ca),fun v' w'=>∃A c,v'= .slice A na c∧Own w' w.heap.size 67 1 A na c (xs.map W64),ZOR w.heap.size sa na x] [[],[0],[],[],[3],[2,4],[1,5]] [[],[0],[],[],[3],[2,3,4],[0,1,2,3,4,5],[0,1,2,3,4,5,6]] rfl
  (obs_cons rfl rfl (hob rfl rfl ?_) (obs_cons rfl rfl (hob rfl rfl ?_) (obs_cons rfl rfl (hob rfl rfl ?_) (obs_cons rfl rfl (hob rfl rfl ?_) (obs_cons rfl rfl (hob rfl rfl ?_) (obs_cons rfl rfl (hob rfl rfl ?_) (obs_cons rfl rfl (hob rfl rfl ?_) obs_nil))))))) ?_
 · 
  exact fun _ _=>deps_nil (pf g1 0 rfl (by kernel_rfl) (pi_done rfl (Ext.refl _) rfl))
 · 
  exact fun _ e18=>dk rfl rfl (deps_nil (wl_load rfl rfl (load_cell cellBool (hb4.ext (e8.trans e18)) rfl) (by decide) (pi_done rfl (Ext.refl _) rfl)))
 · 
  intro v24 e25
  have hw3:=hw2.trans e25
  refine deps_nil (wl_bslice rfl rfl (by decide) (k:=0) (e:=67) [] (fun _=>by kernel_rfl) fun g26 v27 nb=>?_)
  have hb29:=nb.bk
  have e28:=nb.ext
  have hg30:v7.heap.size≤g26:=by rw [←nb.at_];exact e25.size
  clear nb
  have hw4:=hw3.trans e28
  exact pi_done rfl e28 ⟨_,rfl,hg30,hb29⟩
 · 
  exact fun _ _=>deps_nil (pf g1 1 rfl (by kernel_rfl) (pi_done rfl (Ext.refl _) rfl))
 · 
  exact fun _ e34=>dk rfl rfl (deps_nil (wl_load rfl rfl (load_cell cellWords (hb4.ext (e8.trans e34)) rfl) (by decide) (pi_done rfl (Ext.refl _) rfl)))
 · 
  intro v40 e41
  have hw3:=hw2.trans e41
  refine deps_cons rfl rfl fun x42 y43 h44 e45 f46=>?_
  obtain⟨ge47,rfl,hge47,hbe47⟩:=h44
  have hbe47:=hbe47.ext f46
  refine dk rfl rfl (deps_nil (wl_app0 rfl rfl rfl Tryz.underlying24 info64 rfl (by decide) (Nat.le_trans hw2.size hge47) hw3.size hbe47 (hrx.ext hw3).rv (W64_oneCell xs) (by omega) (by decide) fun A53 c54 v55 ho56 e57=>?_))
  have hw4:=hw3.trans e57
  exact pi_done rfl e57 ⟨_,_,rfl,ho56⟩
 · 
  intro v58 e59
  refine dk rfl rfl (deps_cons rfl rfl fun x65 y66 h67 e68 f69=>?_)
  obtain⟨Ao70,co70,rfl,ox70⟩:=h67
  have ox70:=ox70.ext f69
  refine deps_nil (pu (v:= .agg #[.bool sa,.slice Ao70 na co70]) rfl (by kernel_rfl) ?_)
  exact pi_done rfl (Ext.refl _) ⟨_,_,rfl,(show Zo _ _ sa _ _ _ x from⟨xs,ox70,hrx.wf,hxe⟩)⟩
 · 
  intro v71 e72
  have hw3:=hw2.trans e72
  refine dk rfl rfl (dk rfl rfl (deps_cons rfl rfl fun x83 y84 h85 e86 f87=>?_))
  obtain⟨ge88,rfl,hge88,hbe88⟩:=h85
  have hbe88:=hbe88.ext f87
  refine dk rfl rfl (dk rfl rfl (deps_cons rfl rfl fun x99 y100 h101 e102 f103=>?_))
  obtain⟨Ao104,co104,rfl,ox104⟩:=h101
  have ox104:=ox104.ext f103
  refine deps_cons rfl rfl fun x105 y106 h107 e108 f109=>?_
  obtain⟨Az110,cz110,rfl,zo110⟩:=h107
  have zo110:=zo110.ext f109
  refine deps_nil ?_
  have hb112:=(hb9.ext e72)
  refine so aggInt hb112 [.bool sa,.slice Az110 na cz110] hw3 ge10 rfl rfl rfl rfl fun v111 hb113 u114 hw4=>(wl_nil (eo_np (eo_then (cw_ret (eo_ret [.agg #[.bool sa,.slice Az110 na cz110]] rfl ⟨⟨_,rfl,load_agg aggInt hb113 [.bool sa,.slice Az110 na cz110] rfl (bq rfl) rfl⟩,trivial⟩ ?_)))))
  exact⟨_,rfl,⟨_,_,rfl,(zo110.updT hb112 u114)⟩,hw4⟩
theorem g_law5_one {w:World}{b:Nat}(hb:b≤w.heap.size){sa:Bool}{Aa:Option Addr}{na ca:Nat}{x:Int}(hx:Zi w sa Aa na ca x) (la:na≤1048576):
  Calls Tryz.prog 30 #[.agg #[.bool sa,.slice Aa na ca]] w (Gv w (ZOR b sa na x)):=(g_law5_oneI hx la).mono (Gv.imp (ZOR.imp hb))
def LOR (w0:World) (b n:Nat) (zs:List Int) (v:Value) (w:World):Prop:=∃A,v= .slice A n n∧Lz (some w0) 1048576 b w b A n n zs
theorem LOR.imp {w0:World}{b b' n:Nat}{zs:List Int}(h:b'≤b):∀v w,LOR w0 b n zs v w→LOR w0 b' n zs v w:=fun _ _ ⟨A,h1,h2⟩=>⟨A,h1,h2.mono (Nat.le_refl _) h h⟩
set_option maxHeartbeats 4000000 in
theorem g_law5_manyI {w w0:World}{A:Option Addr}{n cap:Nat}{zs:List Int}{ms:List Nat}(hw0:Ext w0 w) (hl:Zl w A n cap zs ms) (hn:n≤1048576) (hmb:∀i,ms.getD i 0≤1048576):
    Calls Tryz.prog 31 #[.slice A n cap] w (Gv w (LOR w0 w.heap.size n zs)):=by
 refine sx_enter Tryz.func31 rfl (n:=23) rfl (bq rfl) (args:= [.slice A n cap]) (cw_keep [(0,.slice A n cap)] ⟨rfl,trivial⟩ (sr (mv 1 rfl (ne_ (sr (mv 1 rfl (pu (v:= .int .i64 ((n:Nat):Int)) rfl (by kernel_rfl) (wl_makeL (k:=n) (some w0) 1048576 w.heap.size rfl rfl rfl (by omega) (by decide) fun g1 v2 hg3 lz4 e5=>?_))))))))
 have hlbg1:g1≤v2.heap.size:=by have:=(lz4.block _ rfl).2;exact Nat.le_of_lt this
 have hglg1:w.heap.size≤g1:=by rw [←hg3];exact (Ext.refl w).size
 clear hg3
 have hw1:=(Ext.refl w).trans e5
 have blk6:=lz4.block
 refine mv 1 rfl (ne_ (cw_seq (sr (mv 1 rfl (ne_ (cw_block ?_))))))
 refine cw_loop (T:=World×Nat)
  (fun⟨wr,k⟩=> [(0,.slice A n cap),(3,.slice (some ⟨g1,0,none⟩) n n),(4,.int .i64 ((k:Nat):Int))])
  (fun⟨wr,k⟩=>wr)
  (fun⟨wr,k⟩=>(Ext w wr)∧(k≤n)∧(Lz (some w0) 1048576 w.heap.size wr g1 (some ⟨g1,0,none⟩) n n (upto5 zs n k))∧(g1≤wr.heap.size))
  (fun⟨wr,k⟩=>n-k)
  (⟨v2,0⟩:World×Nat) ⟨hw1,Nat.zero_le _,(by have h9:=lz4;rw [upto5_zero zs n] at h9;exact h9),hlbg1⟩ rfl ⟨rfl,rfl,rfl,trivial⟩ ?_
 rintro⟨wr,k⟩ ⟨hw1,hk,hlz,hlb1⟩
 refine cw_re [(0,.slice A n cap),(3,.slice (some ⟨g1,0,none⟩) n n),(4,.int .i64 ((k:Nat):Int))] wr rfl ⟨rfl,rfl,rfl,trivial⟩ ?_
 have blk7:=hlz.block
 refine cw_seq (cw_seq ?_)
 by_cases hkn:k<n
 · 
  refine cw_region (mv 2 rfl (pu (v:= .int .i64 ((n:Nat):Int)) rfl (by kernel_rfl) (wl_cmp rfl rfl rfl true (cb_lt_t (a:=k) (b:=n) rfl rfl (by omega)) (by decide) (ne_ (cw_true rfl (cw_skip (eo_then (cw_seq (cw_block (cw_region (mv 4 rfl ?_)))))))))))
  obtain⟨pz8,sz8,Bz8,cz8,hpz8,ldz8,ez8⟩:=hl.at (i:=k) (by omega)
  refine wl_idx rfl rfl rfl elemI aggInt.size k rfl (by omega) pz8 hpz8 (by decide) (wl_load rfl rfl (ldz8 _ hw1 _ _ aggInt) (by decide) (cl (vs:= [.agg #[.bool sz8,.slice Bz8 (ms.getD k 0) cz8]]) hw1 (g_law5_one hw1.size (ez8.ext hw1) (Nat.le_trans (hmb k) (by decide))) rfl (by kernel_rfl) fun xr11 v9 r11 e10 hw2=>?_))
  obtain⟨Az12,cz12,rfl,zo12⟩:=r11
  obtain⟨pz13,sz13,Bz13,nz13,cz13,hpz13,ldz13,hKz13,ez13⟩:=((hlz.ext e10)).at (i:=k) (by omega)
  have Lz13:ln ((upto5 zs n k).getD k 0)≤1048576:=Nat.le_trans (ez13.zi (hw0.trans hw2)).ln hKz13
  refine wl_idx rfl rfl rfl elemI aggInt.size k rfl (by omega) pz13 hpz13 (by decide) ?_
  have lt19:=(hlz.ext e10)
  obtain⟨us17,own18⟩:=lt19.own
  refine wl_setI (e:=⟨sz8,Az12,(ms.getD k 0),cz12⟩) (z:=zs.getD k 0) rfl rfl rfl hpz13 (by omega) lt19 (Or.inr ⟨_,rfl,Or.inr zo12⟩) (Nat.le_trans (hmb k) (by decide)) fun v14 lz15 uo16=>?_
  have hw3:=uo16.ext hw2 (fun p hp=>by have:=blk7 p hp;omega)
  have hlblz15:g1≤v14.heap.size:=Nat.le_trans (Nat.le_trans hlb1 e10.size) uo16.size
  refine wl_nil (eo_block_normal (eo_then (cw_region (mv 1 rfl (wl_ar rfl rfl rfl ((k+1:Nat):Int) (ai_add (a:=k) (b:=1) rfl rfl (by omega)) (by decide) (mv 1 rfl (wl_nil ?_)))))))
  have hl9:=lz15
  rw [upto5_succ hl.len hkn] at hl9
  refine eo_round (⟨v14,k+1⟩:World×Nat) ⟨hw3,(by omega),hl9,hlblz15⟩ (show n-(k+1)<n-k by omega) rfl ⟨rfl,rfl,rfl,trivial⟩
 · 
  refine cw_region (mv 2 rfl (pu (v:= .int .i64 ((n:Nat):Int)) rfl (by kernel_rfl) (wl_cmp rfl rfl rfl false (cb_lt_f (a:=k) (b:=n) rfl rfl (by omega)) (by decide) (ne_ (cw_false rfl (cw_exit (eo_thenX (eo_loopX (eo_block_here (eo_then (sr (mv 2 rfl (wl_nil ?_)))))))))))))
  refine eo_then (cw_ret (eo_ret [.slice (some ⟨g1,0,none⟩) n n] rfl ⟨rfl,trivial⟩ ?_))
  have hkn2:k=n:=by omega
  have hl9:=hlz
  rw [hkn2,upto5_full hl.len] at hl9
  exact⟨_,rfl,⟨_,rfl,hl9.mono (Nat.le_refl _) (Nat.le_refl _) hglg1⟩,hw1⟩
theorem g_law5_many {w w0:World}{b:Nat}(hb:b≤w.heap.size) (hw0:Ext w0 w){A:Option Addr}{n cap:Nat}{zs:List Int}{ms:List Nat}(hl:Zl w A n cap zs ms) (hn:n≤1048576) (hmb:∀i,ms.getD i 0≤1048576):
  Calls Tryz.prog 31 #[.slice A n cap] w (Gv w (LOR w0 b n zs)):=(g_law5_manyI hw0 hl hn hmb).mono (Gv.imp (LOR.imp hb))
set_option maxHeartbeats 8000000 in
theorem zint_Floor_bad {w : World} {s t : Bool} {A B : Option Addr} {n cap m cap' : Nat} {x y : Int} (hx : Zi w s A n cap x) (hl : n ≤ 68719476736) (hy : Zi w t B m cap' y) (hl' : m ≤ 68719476736) (h0 : y = 0) :
    Calls Tryz.prog 123 #[.agg #[.bool s, .slice A n cap], .agg #[.bool t, .slice B m cap']] w (RetZZE w 0 0 4) := by
  have H0 := Lib.hid h0
  clear h0
  go_enter Tryz.func123, Tryz.ntmps123
  go_upto_region 1 with (fail)
  obtain ⟨g, g2, g3, g4, wa, hg4, hg3, hg2, hg, hwa, hb1, hb2, hb3, hb4, hea, l12, l23, l34, l4, n12, n21, n13, n31, n23, n32, n14, n41, n24, n42, n34, n43⟩ := boxes4 w 26 26 26 26 (.bool s) (.slice A n cap) (.bool t) (.slice B m cap') (.bool false) (.slice none 0 0) (.bool false) (.slice none 0 0)
  rw [hg4, hg3, hg2, hg, hwa]
  have hgw : w.heap.size ≤ g := Nat.le_of_eq hg
  clear hwa hg hg2 hg3 hg4
  obtain ⟨f1, f2, f3, f4⟩ := hb1.two
  obtain ⟨h1, h2, h3, h4⟩ := hb2.two
  go_wp2_with fail
  refine (zint_Trunc_bad (hx.ext hea) hl (hy.ext hea) hl' H0.out).mono ?_
  rintro e w1 ⟨sq, Aq, nq, cq, sr, Ar, nr, cr, rfl, zq, zr, hx1⟩
  clear f1 f2 f3 f4 h1 h2 h3 h4
  go_upto_region 2 with (fail)
  obtain ⟨g7, g8, v1, hg8, hg7, hv1, hb7, hb8, he, l78, l8, n78, n87⟩ := boxN2 w1 26 26 [.bool sq, .slice Aq nq cq] [.bool sr, .slice Ar nr cr]
  rw [hg8, hg7, hv1]
  have hs7 : w1.heap.size ≤ g7 := Nat.le_of_eq hg7
  have zq := zq.ext he
  have zr := zr.ext he
  have x1 := hx1.trans he
  have hb3 := hb3.ext x1
  have hb4 := hb4.ext x1
  have e1 := hea.trans x1
  have sz1 := hx1.size
  clear hg8 hg7 hv1 he hb1 hx1
  have hn37 : g3 ≠ g7 := by omega
  have hn38 : g3 ≠ g8 := by omega
  have hn47 : g4 ≠ g7 := by omega
  have hn48 : g4 ≠ g8 := by omega
  have hn73 := hn37.symm
  have hn83 := hn38.symm
  have hn74 := hn47.symm
  have hn84 := hn48.symm
  go_upto_region 5 with (fail)
  obtain ⟨f1, f2, f3, f4⟩ := hb7.two
  obtain ⟨h1, h2, h3, h4⟩ := hb8.two
  obtain ⟨i1, i2, i3, i4⟩ := hb3.two
  obtain ⟨k1, k2, k3, k4⟩ := hb4.two
  go_region_held3 (fun w' => w'.cell? ⟨g7, 0, none⟩ = some (.bool sq) ∧ w'.cell? ⟨g7, 1, none⟩ = some (.slice Aq nq cq) ∧ w'.cell? ⟨g8, 0, none⟩ = some (.bool sr) ∧ w'.cell? ⟨g8, 1, none⟩ = some (.slice Ar nr cr)) (go_keep) (fail)
  all_goals
    go_wp2_with fail
    first
    | (refine bodyPost_ret (res_iie rfl rfl rfl rfl (((hb3.drew).two_set _ _).two_far n34 _ _) (((hb4.drew).two_far n43 _ _).two_set _ _)) rfl ?_
       exact ⟨_, _, _, _, _, _, _, _, rfl, (((zq.ext (Ext.refl _).drew).upd (by omega) (Upd.two _ _)).upd (by omega) (Upd.two _ _)).mono (by omega), (((zr.ext (Ext.refl _).drew).upd (by omega) (Upd.two _ _)).upd (by omega) (Upd.two _ _)).mono (by omega), (Upd.two _ _).ext ((Upd.two _ _).ext e1.drew (by omega)) (by omega)⟩)
    | (refine bodyPost_ret (res_iie rfl rfl rfl rfl (((hb3.drew).two_far n34 _ _).two_set _ _) (((hb4.drew).two_set _ _).two_far n43 _ _)) rfl ?_
       exact ⟨_, _, _, _, _, _, _, _, rfl, (((zq.ext (Ext.refl _).drew).upd (by omega) (Upd.two _ _)).upd (by omega) (Upd.two _ _)).mono (by omega), (((zr.ext (Ext.refl _).drew).upd (by omega) (Upd.two _ _)).upd (by omega) (Upd.two _ _)).mono (by omega), (Upd.two _ _).ext ((Upd.two _ _).ext e1.drew (by omega)) (by omega)⟩)
theorem g_zint_FloorD {w:World}{b:Nat}(hb:b≤w.heap.size){s t:Bool}{A B:Option Addr}{n cap m cap':Nat}{x y:Int}(hx:Zi w s A n cap x) (hl:n≤68719476736) (hy:Zi w t B m cap' y) (hl':m≤68719476736) (h0:y≠0):
  Calls Tryz.prog 123 #[.agg #[.bool s,.slice A n cap],.agg #[.bool t,.slice B m cap']] w (fun e w'=>∃q r,Flo q r x y∧Gv w (T3 (ZR b q) (ZR b r) (Is (.int .i64 0))) e w'):=by
 refine (zint_Floor hx hl hy hl' h0).mono fun e w' h=>?_
 obtain⟨q,r,h1,h2⟩:=h
 exact⟨q,r,h1.out,gzze hb _ _ h2⟩
theorem g_zint_FloorD_bad {w:World}{b:Nat}(hb:b≤w.heap.size){s t:Bool}{A B:Option Addr}{n cap m cap':Nat}{x y:Int}(hx:Zi w s A n cap x) (hl:n≤68719476736) (hy:Zi w t B m cap' y) (hl':m≤68719476736) (h0:y=0):
  Calls Tryz.prog 123 #[.agg #[.bool s,.slice A n cap],.agg #[.bool t,.slice B m cap']] w (Gv w (T3 (ZR b 0) (ZR b 0) (Is (.int .i64 4)))):=(zint_Floor_bad hx hl hy hl' h0).mono (gzze hb)
set_option maxHeartbeats 4000000 in
theorem g_zint_Euclid_badDI {w:World}{sa:Bool}{Aa:Option Addr}{na ca:Nat}{x:Int}{sb:Bool}{Ab:Option Addr}{nb cb:Nat}{y:Int}(hx:Zi w sa Aa na ca x) (la:na≤68719476736) (hy:Zi w sb Ab nb cb y) (lb:nb≤68719476736) (h0:y=0):
    Calls Tryz.prog 124 #[.agg #[.bool sa,.slice Aa na ca],.agg #[.bool sb,.slice Ab nb cb]] w (Gv w (T3 (ZR w.heap.size (0)) (ZR w.heap.size (0)) (Is (.int .i64 4)))):=by
 have Lx:ln x≤68719476736:=Nat.le_trans hx.ln la
 have Ly:ln y≤68719476736:=Nat.le_trans hy.ln lb
 refine sx_enter Tryz.func124 rfl (n:=41) rfl (bq rfl) (args:= [.agg #[.bool sa,.slice Aa na ca],.agg #[.bool sb,.slice Ab nb cb]]) (cw_keep [(0,.agg #[.bool sa,.slice Aa na ca]),(1,.agg #[.bool sb,.slice Ab nb cb])] ⟨rfl,rfl,trivial⟩ (sr (bx [.bool sa,.slice Aa na ca] (Ext.refl w) rfl rfl rfl fun g1 v2 hb4 ge5 e3 hw1=>(bxq [.bool sb,.slice Ab nb cb] hw1 hb4.lt rfl rfl rfl fun g6 v7 hb9 ge10 q11 e8 hw2=>(alq [F0,S0] hw2 hb9.lt (fun _=>by kernel_rfl) rfl fun g12 v13 hb15 ge16 q17 e14 hw3=>(alq [F0,S0] hw3 hb15.lt (fun _=>by kernel_rfl) rfl fun g18 v19 hb21 ge22 q23 e20 hw4=>(mv 1 rfl (ne_ (sr (lo aggInt (hb4.ext (e8.trans (e14.trans e20))) [.bool sa,.slice Aa na ca] rfl rfl rfl (lo aggInt (hb9.ext (e14.trans e20)) [.bool sb,.slice Ab nb cb] rfl rfl rfl (cl (vs:= [.agg #[.bool sa,.slice Aa na ca],.agg #[.bool sb,.slice Ab nb cb]]) hw4 (g_zint_Trunc_bad hw4.size (hx.ext hw4) (lx_ la rfl) (hy.ext hw4) (lx_ lb rfl) h0) rfl (by kernel_rfl) fun xr26 v24 r26 e25 hw5=>?_))))))))))))
 obtain⟨_,_,_,rfl,⟨s28,A28,n28,c28,rfl,z28⟩,⟨s29,A29,n29,c29,rfl,z29⟩,rfl⟩:=r26
 refine mv 1 rfl (pu (v:= .agg #[.bool s28,.slice A28 n28 c28]) rfl (by kernel_rfl) (pu (v:= .agg #[.bool s29,.slice A29 n29 c29]) rfl (by kernel_rfl) (pu (v:= .int .i64 4) rfl (by kernel_rfl) (alq [F0,S0] hw5 (hb21.ext e25).lt (fun _=>by kernel_rfl) rfl fun g30 v31 hb33 ge34 q35 e32 hw6=>(alq [F0,S0] hw6 hb33.lt (fun _=>by kernel_rfl) rfl fun g36 v37 hb39 ge40 q41 e38 hw7=>?_)))))
 have hb43:=(hb33.ext e38)
 refine so aggInt hb43 [.bool s28,.slice A28 n28 c28] hw7 ge34 rfl rfl rfl rfl fun v42 hb44 u45 hw8=>?_
 have hb48:=(hb39.updN u45 (by omega))
 refine so aggInt hb48 [.bool s29,.slice A29 n29 c29] hw8 ge40 rfl rfl rfl rfl fun v47 hb49 u50 hw9=>(mv 1 rfl (ne_ (cw_seq (sr (mv 1 rfl (wl_cmp rfl rfl rfl true (by decide) (by decide) (mv 4 rfl (pu (v:= .bool true) rfl (by kernel_rfl) (ne_ (cw_true rfl (cw_seq (cw_keep [(0,.agg #[.bool sa,.slice Aa na ca]),(1,.agg #[.bool sb,.slice Ab nb cb]),(2,.pointer (some ⟨g1,0,none⟩)),(3,.pointer (some ⟨g6,0,none⟩)),(4,.pointer (some ⟨g12,0,none⟩)),(5,.pointer (some ⟨g18,0,none⟩)),(11,.agg #[.bool sa,.slice Aa na ca]),(12,.agg #[.bool sb,.slice Ab nb cb]),(13,.tuple #[.agg #[.bool s28,.slice A28 n28 c28],.agg #[.bool s29,.slice A29 n29 c29],.int .i64 4]),(10,.tuple #[.agg #[.bool s28,.slice A28 n28 c28],.agg #[.bool s29,.slice A29 n29 c29],.int .i64 4]),(14,.agg #[.bool s28,.slice A28 n28 c28]),(15,.agg #[.bool s29,.slice A29 n29 c29]),(16,.int .i64 4),(7,.pointer (some ⟨g30,0,none⟩)),(8,.pointer (some ⟨g36,0,none⟩)),(9,.int .i64 4),(17,.int .i64 4),(18,.bool true),(19,.bool true),(20,undef),(21,undef),(22,undef),(23,.bool true)] ⟨rfl,rfl,rfl,rfl,rfl,rfl,rfl,rfl,rfl,rfl,rfl,rfl,rfl,rfl,rfl,rfl,rfl,rfl,rfl,rfl,rfl,rfl,rfl,trivial⟩ ?_))))))))))))
 obtain⟨v52,hv,e53⟩:∃v,v=v47.drew∧Ext v47 v:=⟨_,rfl,(Ext.refl _).drew⟩
 have hw10:=hw9.trans e53
 have hb55:=((((hb15.ext (e20.trans (e25.trans (e32.trans e38)))).updN u45 (by omega)).updN u50 (by omega)).ext e53)
 obtain⟨v54,hr59,hb56,u57,hs58⟩:=run_stored (P:=Tryz.prog) (us:= [.bool s28,.slice A28 n28 c28]) (off:=0) aggInt rfl hb55 (bq rfl) rfl [.bool s28,.slice A28 n28 c28] rfl
 have hw11:=u57.ext hw10 ge16
 have hb61:=(((((hb21.ext (e25.trans (e32.trans e38))).updN u45 (by omega)).updN u50 (by omega)).ext e53).updN u57 (by omega))
 obtain⟨v60,hr65,hb62,u63,hs64⟩:=run_stored (P:=Tryz.prog) (us:= [.bool s29,.slice A29 n29 c29]) (off:=0) aggInt rfl hb61 (bq rfl) rfl [.bool s29,.slice A29 n29 c29] rfl
 have hw12:=u63.ext hw11 ge22
 refine cw_det mix (w:=v52) [.agg #[.bool s28,.slice A28 n28 c28],.agg #[.bool s29,.slice A29 n29 c29],.int .i64 4,undef,undef,.int .i64 4] [v52,v54,v60] [3,4] [[],[],[],[0],[1],[2]] [[],[],[],[0],[0,1,3],[0,1,2,3,4]] [(0,0),(1,0),(1,1),(2,0),(2,1),(2,2),(3,0),(4,1),(5,2)] rfl hv ?_ ?_
 · 
  refine dobs_val _ rfl rfl rfl rfl rfl (rd_load rfl (load_agg aggInt ((hb44.updN u50 (by omega)).ext e53) [.bool s28,.slice A28 n28 c28] rfl (bq rfl) rfl)) (dobs_val _ rfl rfl rfl rfl rfl (rd_load rfl (load_agg aggInt (hb49.ext e53) [.bool s29,.slice A29 n29 c29] rfl (bq rfl) rfl)) (dobs_val _ rfl rfl rfl rfl rfl (rd_load rfl (load_agg aggInt ((hb49.ext e53).updN u57 (by omega)) [.bool s29,.slice A29 n29 c29] rfl (bq rfl) rfl)) (dobs_val _ rfl rfl rfl rfl rfl (rd_move rfl) (dobs_val _ rfl rfl rfl rfl rfl (rd_move rfl) (dobs_val _ rfl rfl rfl rfl rfl (rd_move rfl) (dobs_sto _ rfl rfl rfl rfl rfl (rd_store rfl rfl hr59) (dobs_sto _ rfl rfl rfl rfl rfl (rd_store rfl rfl hr65) (dobs_val _ rfl rfl rfl rfl rfl (rd_assign rfl) ?_))))))))
  exact dobs_nil
 clear hv
 refine eo_keep [(0,.agg #[.bool sa,.slice Aa na ca]),(1,.agg #[.bool sb,.slice Ab nb cb]),(2,.pointer (some ⟨g1,0,none⟩)),(3,.pointer (some ⟨g6,0,none⟩)),(4,.pointer (some ⟨g12,0,none⟩)),(5,.pointer (some ⟨g18,0,none⟩)),(11,.agg #[.bool sa,.slice Aa na ca]),(12,.agg #[.bool sb,.slice Ab nb cb]),(13,.tuple #[.agg #[.bool s28,.slice A28 n28 c28],.agg #[.bool s29,.slice A29 n29 c29],.int .i64 4]),(10,.tuple #[.agg #[.bool s28,.slice A28 n28 c28],.agg #[.bool s29,.slice A29 n29 c29],.int .i64 4]),(14,.agg #[.bool s28,.slice A28 n28 c28]),(15,.agg #[.bool s29,.slice A29 n29 c29]),(16,.int .i64 4),(7,.pointer (some ⟨g30,0,none⟩)),(8,.pointer (some ⟨g36,0,none⟩)),(9,.int .i64 4),(17,.int .i64 4),(18,.bool true),(19,.bool true),(20,undef),(21,undef),(22,undef),(23,.bool true),(24,.agg #[.bool s28,.slice A28 n28 c28]),(25,.agg #[.bool s29,.slice A29 n29 c29]),(26,.int .i64 4),(6,.int .i64 4)] ⟨rfl,rfl,rfl,rfl,rfl,rfl,rfl,rfl,rfl,rfl,rfl,rfl,rfl,rfl,rfl,rfl,rfl,rfl,rfl,rfl,rfl,rfl,rfl,rfl,rfl,rfl,rfl,trivial⟩ (eo_then (cw_ret (eo_thenR (eo_ret [.agg #[.bool s28,.slice A28 n28 c28],.agg #[.bool s29,.slice A29 n29 c29],.int .i64 4] rfl ⟨⟨_,rfl,load_agg aggInt (hb56.updN u63 (by omega)) [.bool s28,.slice A28 n28 c28] rfl (bq rfl) rfl⟩,⟨_,rfl,load_agg aggInt hb62 [.bool s29,.slice A29 n29 c29] rfl (bq rfl) rfl⟩,rfl,trivial⟩ ?_))))
 exact⟨_,rfl,⟨_,_,_,rfl,⟨_,_,_,_,rfl,((((((z28.ext (e32.trans e38)).updT hb43 u45).updT hb48 u50).ext e53).updT hb55 u57).updT hb61 u63)⟩,⟨_,_,_,_,rfl,((((((z29.ext (e32.trans e38)).updT hb43 u45).updT hb48 u50).ext e53).updT hb55 u57).updT hb61 u63)⟩,rfl⟩,hw12⟩
theorem g_zint_Euclid_badD {w:World}{sa:Bool}{Aa:Option Addr}{na ca:Nat}{x:Int}{sb:Bool}{Ab:Option Addr}{nb cb:Nat}{y:Int}{b:Nat}(hb:b≤w.heap.size) (hx:Zi w sa Aa na ca x) (la:na≤68719476736) (hy:Zi w sb Ab nb cb y) (lb:nb≤68719476736) (h0:y=0):
  Calls Tryz.prog 124 #[.agg #[.bool sa,.slice Aa na ca],.agg #[.bool sb,.slice Ab nb cb]] w (Gv w (T3 (ZR b (0)) (ZR b (0)) (Is (.int .i64 4)))):=(g_zint_Euclid_badDI hx la hy lb h0).mono (Gv.imp (T3.imp (ZR.imp hb) (ZR.imp hb) Is.imp))
def eZ (y:Int):Int:=if y=0 then 4 else 0
def qT (x y:Int):Int:=if y=0 then 0 else x.tdiv y
def rT (x y:Int):Int:=if y=0 then 0 else x.tmod y
def qF (x y:Int):Int:=if y=0 then 0 else if 0≤scmp (x.tmod y) 0*scmp y 0 then x.tdiv y else x.tdiv y-1
def rF (x y:Int):Int:=if y=0 then 0 else if 0≤scmp (x.tmod y) 0*scmp y 0 then x.tmod y else x.tmod y+y
def qE (x y:Int):Int:=if y=0 then 0 else x/y
def rEu (x y:Int):Int:=if y=0 then 0 else x%y
def vX (x y:Int):Int:=if y=0 then 0 else if x.natAbs%y.natAbs=0 then x.tdiv y else 0
def eX (x y:Int):Int:=if y=0 then 4 else if x.natAbs%y.natAbs=0 then 0 else 8
def vS (x y:Int):Int:=if y=0 then 0 else if x%y+x%y≤(y.natAbs:Int) then x%y else x%y-(y.natAbs:Int)
theorem scmp_c5 (x:Int):(x<0∧scmp x 0= -1)∨(x=0∧scmp x 0=0)∨(0<x∧scmp x 0=1):=by unfold scmp;split <;> (try split) <;> omega
theorem flo_keep5 {x y:Int}(h0:y≠0) (hk:0≤scmp (x.tmod y) 0*scmp y 0):Flo (x.tdiv y) (x.tmod y) x y:=by
 have ha:=tmod_abs (x:=x) h0
 refine⟨Int.tdiv_mul_add_tmod x y,fun h=>?_,fun h=>?_⟩
 ·have e:scmp y 0=1:=by have:=scmp_c5 y;omega
  rw [e] at hk;have:=scmp_c5 (x.tmod y);omega
 ·have e:scmp y 0= -1:=by have:=scmp_c5 y;omega
  rw [e] at hk;have:=scmp_c5 (x.tmod y);omega
theorem flo_shift5 {x y:Int}(h0:y≠0) (hk:¬0≤scmp (x.tmod y) 0*scmp y 0):Flo (x.tdiv y-1) (x.tmod y+y) x y:=by
 have ha:=tmod_abs (x:=x) h0
 have he:=Int.tdiv_mul_add_tmod x y
 refine⟨by rw [Int.sub_mul,Int.one_mul];omega,fun h=>?_,fun h=>?_⟩
 ·have e:scmp y 0=1:=by have:=scmp_c5 y;omega
  rw [e] at hk;have:=scmp_c5 (x.tmod y);omega
 ·have e:scmp y 0= -1:=by have:=scmp_c5 y;omega
  rw [e] at hk;have:=scmp_c5 (x.tmod y);omega
theorem flo_uniq5 {q r q' r' x y:Int}(h0:y≠0) (h:Flo q r x y) (k:Flo q' r' x y):q=q'∧r=r':=by
 have e1:=h.eq
 have e2:=k.eq
 have hd:(q-q')*y=r'-r:=by rw [Int.sub_mul];omega
 have hlt:(r'-r).natAbs<y.natAbs:=by
  rcases Int.lt_or_gt_of_ne h0 with hy | hy
  ·have:=h.neg hy;have:=k.neg hy;omega
  ·have:=h.pos hy;have:=k.pos hy;omega
 have hq:q-q'=0:=by
  by_cases hz:q-q'=0
  ·exact hz
  ·exfalso
   rw [←hd,Int.natAbs_mul] at hlt
   have:1*y.natAbs≤(q-q').natAbs*y.natAbs:=Nat.mul_le_mul_right _ (by omega)
   omega
 rw [hq,Int.zero_mul] at hd
 exact⟨by omega,by omega⟩
theorem flo_spec5 {x y:Int}(h0:y≠0):Flo (qF x y) (rF x y) x y:=by
 unfold qF rF
 rw [if_neg h0,if_neg h0]
 by_cases hk:0≤scmp (x.tmod y) 0*scmp y 0
 ·rw [if_pos hk,if_pos hk];exact flo_keep5 h0 hk
 ·rw [if_neg hk,if_neg hk];exact flo_shift5 h0 hk
theorem ln_qT {x y:Int}{N:Nat}(h:ln x≤N):ln (qT x y)≤N:=by
 unfold qT;split
 ·exact Nat.zero_le _
 ·exact Nat.le_trans (ln_tdiv _ _) h
theorem ln_rT {x y:Int}{N:Nat}(h:ln x≤N):ln (rT x y)≤N:=by
 unfold rT;split
 ·exact Nat.zero_le _
 ·exact Nat.le_trans (ln_tmod _ _) h
theorem ln_qF {x y:Int}{N:Nat}(h:ln x≤N):ln (qF x y)≤N+2:=by
 unfold qF;split
 ·exact Nat.zero_le _
 ·split
  ·exact Nat.le_trans (ln_tdiv _ _) (Nat.le_trans h (by omega))
  ·exact Nat.le_trans (ln_sub (Nat.le_trans (ln_tdiv _ _) h) (show ln 1≤1 by decide+kernel)) (by omega)
theorem ln_rF {x y:Int}{N M:Nat}(h:ln x≤N) (h':ln y≤M):ln (rF x y)≤N+M+1:=by
 unfold rF;split
 ·exact Nat.zero_le _
 ·split
  ·exact Nat.le_trans (ln_tmod _ _) (Nat.le_trans h (by omega))
  ·exact Nat.le_trans (ln_add (Nat.le_trans (ln_tmod _ _) h) h') (by omega)
theorem ln_qE {x y:Int}{N:Nat}(h:ln x≤N):ln (qE x y)≤N+2:=by
 unfold qE;split
 ·exact Nat.zero_le _
 ·exact ln_ediv5 h
theorem ln_rEu {x y:Int}{N:Nat}(h:ln y≤N):ln (rEu x y)≤N:=by
 unfold rEu;split
 ·exact Nat.zero_le _
 ·rename_i h0;exact Nat.le_trans (ln_emod h0) h
theorem ln_vX {x y:Int}{N:Nat}(h:ln x≤N):ln (vX x y)≤N:=by
 unfold vX;split
 ·exact Nat.zero_le _
 ·split
  ·exact Nat.le_trans (ln_tdiv _ _) h
  ·exact Nat.zero_le _
theorem ln_vS {x y:Int}{N:Nat}(h:ln y≤N):ln (vS x y)≤N+1:=by
 unfold vS;split
 ·exact Nat.zero_le _
 ·rename_i h0
  split
  ·exact Nat.le_trans (ln_emod h0) (Nat.le_trans h (by omega))
  ·exact Nat.le_trans (ln_sub (Nat.le_trans (ln_emod h0) h) (by rw [ln_abs];exact h)) (by omega)
theorem j_zint_Trunc {w:World}{b:Nat}(hb:b≤w.heap.size){s:Bool}{A:Option Addr}{n cap:Nat}{x:Int}(hx:Zi w s A n cap x) (la:n≤1048576){t:Bool}{B:Option Addr}{m cap':Nat}{y:Int}(hy:Zi w t B m cap' y) (lb:m≤1048576):
  Calls Tryz.prog 122 #[.agg #[.bool s,.slice A n cap],.agg #[.bool t,.slice B m cap']] w (Gv w (T3 (ZR b (qT x y)) (ZR b (rT x y)) (Is (.int .i64 (eZ y))))):=by
 by_cases h0:y=0
 ·simp only [qT,rT,eZ,if_pos h0]
  exact g_zint_Trunc_bad hb hx (Nat.le_trans la (by decide)) hy (Nat.le_trans lb (by decide)) h0
 ·simp only [qT,rT,eZ,if_neg h0]
  exact g_zint_Trunc hb hx (Nat.le_trans la (by decide)) hy (Nat.le_trans lb (by decide)) h0
theorem j_ref5_Trunc {w:World}{b:Nat}(hb:b≤w.heap.size){s:Bool}{A:Option Addr}{n cap:Nat}{x:Int}(hx:Zi w s A n cap x) (la:n≤1048576){t:Bool}{B:Option Addr}{m cap':Nat}{y:Int}(hy:Zi w t B m cap' y) (lb:m≤1048576):
  Calls Tryz.prog 107 #[.agg #[.bool s,.slice A n cap],.agg #[.bool t,.slice B m cap']] w (Gv w (T3 (ZR b (qT x y)) (ZR b (rT x y)) (Is (.int .i64 (eZ y))))):=by
 by_cases h0:y=0
 ·simp only [qT,rT,eZ,if_pos h0]
  exact g_ref5_Trunc_bad hb hx (Nat.le_trans la (by decide)) hy (Nat.le_trans lb (by decide)) h0
 ·simp only [qT,rT,eZ,if_neg h0]
  exact g_ref5_Trunc hb hx (Nat.le_trans la (by decide)) hy (Nat.le_trans lb (by decide)) h0
set_option maxHeartbeats 4000000 in
theorem j_ref5_Floor {w:World}{sa:Bool}{Aa:Option Addr}{na ca:Nat}{x:Int}{sb:Bool}{Ab:Option Addr}{nb cb:Nat}{y:Int}{b:Nat}(hb:b≤w.heap.size) (hx:Zi w sa Aa na ca x) (la:na≤1048576) (hy:Zi w sb Ab nb cb y) (lb:nb≤1048576):
    Calls Tryz.prog 108 #[.agg #[.bool sa,.slice Aa na ca],.agg #[.bool sb,.slice Ab nb cb]] w (Gv w (T3 (ZR b (qF x y)) (ZR b (rF x y)) (Is (.int .i64 (eZ y))))):=by
 refine Calls.mono (R:=Gv w (T3 (ZR w.heap.size (qF x y)) (ZR w.heap.size (rF x y)) (Is (.int .i64 (eZ y))))) ?_ (Gv.imp (T3.imp (ZR.imp hb) (ZR.imp hb) Is.imp))
 have Lx:ln x≤1048576:=Nat.le_trans hx.ln la
 have Ly:ln y≤1048576:=Nat.le_trans hy.ln lb
 refine sx_enter Tryz.func108 rfl (n:=38) rfl (bq rfl) (args:= [.agg #[.bool sa,.slice Aa na ca],.agg #[.bool sb,.slice Ab nb cb]]) (cw_keep [(0,.agg #[.bool sa,.slice Aa na ca]),(1,.agg #[.bool sb,.slice Ab nb cb])] ⟨rfl,rfl,trivial⟩ (sr (bx [.bool sa,.slice Aa na ca] (Ext.refl w) rfl rfl rfl fun g1 v2 hb4 ge5 e3 hw1=>(bxq [.bool sb,.slice Ab nb cb] hw1 hb4.lt rfl rfl rfl fun g6 v7 hb9 ge10 q11 e8 hw2=>(alq [F0,S0] hw2 hb9.lt (fun _=>by kernel_rfl) rfl fun g12 v13 hb15 ge16 q17 e14 hw3=>(alq [F0,S0] hw3 hb15.lt (fun _=>by kernel_rfl) rfl fun g18 v19 hb21 ge22 q23 e20 hw4=>(mv 1 rfl (ne_ (sr (lo aggInt (hb4.ext (e8.trans (e14.trans e20))) [.bool sa,.slice Aa na ca] rfl rfl rfl (lo aggInt (hb9.ext (e14.trans e20)) [.bool sb,.slice Ab nb cb] rfl rfl rfl ?_)))))))))))
 have L24:ln (qT x y)≤1048576:=ln_qT Lx
 have L25:ln (rT x y)≤1048576:=ln_rT Lx
 refine cl (vs:= [.agg #[.bool sa,.slice Aa na ca],.agg #[.bool sb,.slice Ab nb cb]]) hw4 (j_ref5_Trunc hw4.size (hx.ext hw4) (lx_ la rfl) (hy.ext hw4) (lx_ lb rfl)) rfl (by kernel_rfl) fun xr28 v26 r28 e27 hw5=>?_
 obtain⟨_,_,_,rfl,⟨s30,A30,n30,c30,rfl,z30⟩,⟨s31,A31,n31,c31,rfl,z31⟩,rfl⟩:=r28
 refine mv 1 rfl (pu (v:= .agg #[.bool s30,.slice A30 n30 c30]) rfl (by kernel_rfl) (pu (v:= .agg #[.bool s31,.slice A31 n31 c31]) rfl (by kernel_rfl) (pu (v:= .int .i64 (eZ y)) rfl (by kernel_rfl) (alq [F0,S0] hw5 (hb21.ext e27).lt (fun _=>by kernel_rfl) rfl fun g32 v33 hb35 ge36 q37 e34 hw6=>(alq [F0,S0] hw6 hb35.lt (fun _=>by kernel_rfl) rfl fun g38 v39 hb41 ge42 q43 e40 hw7=>?_)))))
 have hb45:=(hb35.ext e40)
 refine so aggInt hb45 [.bool s30,.slice A30 n30 c30] hw7 ge36 rfl rfl rfl rfl fun v44 hb46 u47 hw8=>?_
 have hb50:=(hb41.updN u47 (by omega))
 refine so aggInt hb50 [.bool s31,.slice A31 n31 c31] hw8 ge42 rfl rfl rfl rfl fun v49 hb51 u52 hw9=>(mv 1 rfl (ne_ (cw_seq (cw_seq ?_))))
 by_cases h0:y=0
 · 
  have he:eZ y=4:=if_pos h0
  refine cw_draw mix 10 [] [Is (.int .i64 (eZ y)),Is (.bool true),Is (.bool true),Is (undef),Is (undef),Is (undef),Is (undef),Is (undef),Is (undef),Is (.bool true)] [[],[0],[1],[2],[2,3],[2],[2,5],[2,4,6],[2,7],[2,8]] [[],[0],[0,1],[0,1,2],[0,1,2,3],[0,1,2],[0,1,2,3,4,5],[0,1,2,3,4,5,6],[0,1,2,3,4,5,6,7],[0,1,2,3,4,5,6,7,8]] rfl
   (obs_cons rfl rfl (hob rfl rfl ?_) (obs_cons rfl rfl (hob rfl rfl ?_) (obs_cons rfl rfl (hob rfl rfl ?_) (obs_cons rfl rfl (hob rfl rfl ?_) (obs_cons rfl rfl (hob rfl rfl ?_) (obs_cons rfl rfl (hob rfl rfl ?_) (obs_cons rfl rfl (hob rfl rfl ?_) (obs_cons rfl rfl (hob rfl rfl ?_) (obs_cons rfl rfl (hob rfl rfl ?_) (obs_cons rfl rfl (hob rfl rfl ?_) obs_nil)))))))))) ?_
  · 
   exact fun _ _=>deps_nil (mv 1 rfl (pi_done rfl (Ext.refl _) rfl))
  · 
   exact fun _ _=>dk rfl rfl (deps_nil (wl_cmp rfl rfl rfl true (ne_t (by omega)) (by decide) (pi_done rfl (Ext.refl _) rfl)))
  · 
   exact fun _ _=>dk rfl rfl (deps_nil (mv 1 rfl (pi_done rfl (Ext.refl _) rfl)))
  · 
   exact fun _ _=>dk rfl rfl (deps_nil (mv 1 rfl (pi_done rfl (Ext.refl _) rfl)))
  · 
   exact fun _ _=>dk rfl rfl (dk rfl rfl (deps_nil (mv 1 rfl (pi_done rfl (Ext.refl _) rfl))))
  · 
   exact fun _ _=>dk rfl rfl (deps_nil (mv 1 rfl (pi_done rfl (Ext.refl _) rfl)))
  · 
   exact fun _ _=>dk rfl rfl (dk rfl rfl (deps_nil (mv 1 rfl (pi_done rfl (Ext.refl _) rfl))))
  · 
   exact fun _ _=>dk rfl rfl (dk rfl rfl (dk rfl rfl (deps_nil (mv 1 rfl (pi_done rfl (Ext.refl _) rfl)))))
  · 
   exact fun _ _=>dk rfl rfl (dk rfl rfl (deps_nil (mv 1 rfl (pi_done rfl (Ext.refl _) rfl))))
  · 
   exact fun _ _=>dk rfl rfl (dk rfl rfl (deps_nil (pu (v:= .bool true) rfl (by kernel_rfl) (pi_done rfl (Ext.refl _) rfl))))
  · 
   intro v149 e150
   have hw10:=hw9.trans e150
   refine dk rfl rfl (dk rfl rfl (dk rfl rfl (dk rfl rfl (dk rfl rfl (dk rfl rfl (dk rfl rfl (dk rfl rfl (dk rfl rfl (dk rfl rfl (deps_nil (wl_nil (eo_np (eo_then ?_)))))))))))))
   refine cw_true rfl (cw_seq (cw_keep [(3,.pointer (some ⟨g6,0,none⟩)),(4,.pointer (some ⟨g12,0,none⟩)),(5,.pointer (some ⟨g18,0,none⟩)),(7,.pointer (some ⟨g32,0,none⟩)),(8,.pointer (some ⟨g38,0,none⟩)),(9,.int .i64 (eZ y))] ⟨rfl,rfl,rfl,rfl,rfl,rfl,trivial⟩ ?_))
   obtain⟨v201,hv,e202⟩:∃v,v=v149.drew∧Ext v149 v:=⟨_,rfl,(Ext.refl _).drew⟩
   have hw11:=hw10.trans e202
   have hb204:=((((hb15.ext (e20.trans (e27.trans (e34.trans e40)))).updN u47 (by omega)).updN u52 (by omega)).ext (e150.trans e202))
   obtain⟨v203,hr208,hb205,u206,hs207⟩:=run_stored (P:=Tryz.prog) (us:= [.bool s30,.slice A30 n30 c30]) (off:=0) aggInt rfl hb204 (bq rfl) rfl [.bool s30,.slice A30 n30 c30] rfl
   have hw12:=u206.ext hw11 ge16
   have hb210:=(((((hb21.ext (e27.trans (e34.trans e40))).updN u47 (by omega)).updN u52 (by omega)).ext (e150.trans e202)).updN u206 (by omega))
   obtain⟨v209,hr214,hb211,u212,hs213⟩:=run_stored (P:=Tryz.prog) (us:= [.bool s31,.slice A31 n31 c31]) (off:=0) aggInt rfl hb210 (bq rfl) rfl [.bool s31,.slice A31 n31 c31] rfl
   have hw13:=u212.ext hw12 ge22
   refine cw_det mix (w:=v201) [.agg #[.bool s30,.slice A30 n30 c30],.agg #[.bool s31,.slice A31 n31 c31],.int .i64 (eZ y),undef,undef,.int .i64 (eZ y)] [v201,v203,v209] [3,4] [[],[],[],[0],[1],[2]] [[],[],[],[0],[0,1,3],[0,1,2,3,4]] [(0,0),(1,0),(1,1),(2,0),(2,1),(2,2),(3,0),(4,1),(5,2)] rfl hv ?_ ?_
   · 
    refine dobs_val _ rfl rfl rfl rfl rfl (rd_load rfl (load_agg aggInt ((hb46.updN u52 (by omega)).ext (e150.trans e202)) [.bool s30,.slice A30 n30 c30] rfl (bq rfl) rfl)) (dobs_val _ rfl rfl rfl rfl rfl (rd_load rfl (load_agg aggInt (hb51.ext (e150.trans e202)) [.bool s31,.slice A31 n31 c31] rfl (bq rfl) rfl)) (dobs_val _ rfl rfl rfl rfl rfl (rd_load rfl (load_agg aggInt ((hb51.ext (e150.trans e202)).updN u206 (by omega)) [.bool s31,.slice A31 n31 c31] rfl (bq rfl) rfl)) (dobs_val _ rfl rfl rfl rfl rfl (rd_move rfl) (dobs_val _ rfl rfl rfl rfl rfl (rd_move rfl) (dobs_val _ rfl rfl rfl rfl rfl (rd_move rfl) (dobs_sto _ rfl rfl rfl rfl rfl (rd_store rfl rfl hr208) (dobs_sto _ rfl rfl rfl rfl rfl (rd_store rfl rfl hr214) (dobs_val _ rfl rfl rfl rfl rfl (rd_assign rfl) ?_))))))))
    exact dobs_nil
   clear hv
   refine eo_keep [(3,.pointer (some ⟨g6,0,none⟩)),(4,.pointer (some ⟨g12,0,none⟩)),(5,.pointer (some ⟨g18,0,none⟩)),(7,.pointer (some ⟨g32,0,none⟩)),(8,.pointer (some ⟨g38,0,none⟩)),(6,.int .i64 (eZ y))] ⟨rfl,rfl,rfl,rfl,rfl,rfl,trivial⟩ (eo_then (cw_ret (eo_thenR (eo_ret [.agg #[.bool s30,.slice A30 n30 c30],.agg #[.bool s31,.slice A31 n31 c31],.int .i64 (eZ y)] rfl ⟨⟨_,rfl,load_agg aggInt (hb205.updN u212 (by omega)) [.bool s30,.slice A30 n30 c30] rfl (bq rfl) rfl⟩,⟨_,rfl,load_agg aggInt hb211 [.bool s31,.slice A31 n31 c31] rfl (bq rfl) rfl⟩,rfl,trivial⟩ ?_))))
   exact⟨_,rfl,⟨_,_,_,rfl,⟨_,_,_,_,rfl,(((((((z30.ext (e34.trans e40)).updT hb45 u47).updT hb50 u52).ext (e150.trans e202)).updT hb204 u206).updT hb210 u212)).cast (by simp only [qT,rT,qF,rF,if_pos h0])⟩,⟨_,_,_,_,rfl,(((((((z31.ext (e34.trans e40)).updT hb45 u47).updT hb50 u52).ext (e150.trans e202)).updT hb204 u206).updT hb210 u212)).cast (by simp only [qT,rT,qF,rF,if_pos h0])⟩,rfl⟩,hw13⟩
 · 
  have he:eZ y=0:=if_neg h0
  have hq:qT x y=x.tdiv y:=if_neg h0
  have hr:rT x y=x.tmod y:=if_neg h0
  by_cases hk:0≤scmp (rT x y) 0*scmp y 0
  · 
   refine cw_draw mix 10 [] [Is (.int .i64 (eZ y)),Is (.bool false),Is (.bool false),Is (.agg #[.bool s31,.slice A31 n31 c31]),Is (.int .i64 (scmp (rT x y) 0)),Is (.agg #[.bool sb,.slice Ab nb cb]),Is (.int .i64 (scmp y 0)),Is (.int .i64 (scmp (rT x y) 0*scmp y 0)),Is (.bool true),Is (.bool true)] [[],[0],[1],[2],[2,3],[2],[2,5],[2,4,6],[2,7],[2,8]] [[],[0],[0,1],[0,1,2],[0,1,2,3],[0,1,2],[0,1,2,3,4,5],[0,1,2,3,4,5,6],[0,1,2,3,4,5,6,7],[0,1,2,3,4,5,6,7,8]] rfl
    (obs_cons rfl rfl (hob rfl rfl ?_) (obs_cons rfl rfl (hob rfl rfl ?_) (obs_cons rfl rfl (hob rfl rfl ?_) (obs_cons rfl rfl (hob rfl rfl ?_) (obs_cons rfl rfl (hob rfl rfl ?_) (obs_cons rfl rfl (hob rfl rfl ?_) (obs_cons rfl rfl (hob rfl rfl ?_) (obs_cons rfl rfl (hob rfl rfl ?_) (obs_cons rfl rfl (hob rfl rfl ?_) (obs_cons rfl rfl (hob rfl rfl ?_) obs_nil)))))))))) ?_
   · 
    exact fun _ _=>deps_nil (mv 1 rfl (pi_done rfl (Ext.refl _) rfl))
   · 
    exact fun _ _=>dk rfl rfl (deps_nil (wl_cmp rfl rfl rfl false (ne_f (by omega)) (by decide) (pi_done rfl (Ext.refl _) rfl)))
   · 
    exact fun _ _=>dk rfl rfl (deps_nil (mv 1 rfl (pi_done rfl (Ext.refl _) rfl)))
   · 
    exact fun _ e232=>dk rfl rfl (deps_nil (lo aggInt (hb51.ext e232) [.bool s31,.slice A31 n31 c31] rfl rfl rfl (pi_done rfl (Ext.refl _) rfl)))
   · 
    intro v238 e239
    have hw10:=hw9.trans e239
    refine dk rfl rfl (dk rfl rfl (deps_nil (cl (vs:= [.agg #[.bool s31,.slice A31 n31 c31]]) hw10 (g_ref5_Sign ((((z31.ext (e34.trans e40)).updT hb45 u47).updT hb50 u52).ext e239).zi (z31.le (lx_ L25 rfl))) rfl (by kernel_rfl) fun xr252 v250 r252 e251 hw11=>?_)))
    obtain rfl:=r252
    exact pi_done rfl e251 rfl
   · 
    exact fun _ e254=>dk rfl rfl (deps_nil (lo aggInt ((((hb9.ext (e14.trans (e20.trans (e27.trans (e34.trans e40))))).updN u47 (by omega)).updN u52 (by omega)).ext e254) [.bool sb,.slice Ab nb cb] rfl rfl rfl (pi_done rfl (Ext.refl _) rfl)))
   · 
    intro v260 e261
    have hw10:=hw9.trans e261
    refine dk rfl rfl (dk rfl rfl (deps_nil (cl (vs:= [.agg #[.bool sb,.slice Ab nb cb]]) hw10 (g_ref5_Sign (hy.ext hw10) (lx_ lb rfl)) rfl (by kernel_rfl) fun xr274 v272 r274 e273 hw11=>?_)))
    obtain rfl:=r274
    exact pi_done rfl e273 rfl
   · 
    exact fun _ _=>dk rfl rfl (dk rfl rfl (dk rfl rfl (deps_nil (wl_ar rfl rfl rfl (scmp (rT x y) 0*scmp y 0) (ar_i64m rfl (by have:=scmp_mul_bd (rT x y) 0 y 0;omega) (by have:=scmp_mul_bd (rT x y) 0 y 0;omega)) (by decide) (pi_done rfl (Ext.refl _) rfl)))))
   · 
    exact fun _ _=>dk rfl rfl (dk rfl rfl (deps_nil (wl_cmp rfl rfl rfl true (ge_t hk) (by decide) (pi_done rfl (Ext.refl _) rfl))))
   · 
    exact fun _ _=>dk rfl rfl (dk rfl rfl (deps_nil (pu (v:= .bool true) rfl (by kernel_rfl) (pi_done rfl (Ext.refl _) rfl))))
   · 
    intro v316 e317
    have hw10:=hw9.trans e317
    refine dk rfl rfl (dk rfl rfl (dk rfl rfl (dk rfl rfl (dk rfl rfl (dk rfl rfl (dk rfl rfl (dk rfl rfl (dk rfl rfl (dk rfl rfl (deps_nil (wl_nil (eo_np (eo_then ?_)))))))))))))
    refine cw_true rfl (cw_seq (cw_keep [(3,.pointer (some ⟨g6,0,none⟩)),(4,.pointer (some ⟨g12,0,none⟩)),(5,.pointer (some ⟨g18,0,none⟩)),(7,.pointer (some ⟨g32,0,none⟩)),(8,.pointer (some ⟨g38,0,none⟩)),(9,.int .i64 (eZ y))] ⟨rfl,rfl,rfl,rfl,rfl,rfl,trivial⟩ ?_))
    obtain⟨v368,hv,e369⟩:∃v,v=v316.drew∧Ext v316 v:=⟨_,rfl,(Ext.refl _).drew⟩
    have hw11:=hw10.trans e369
    have hb371:=((((hb15.ext (e20.trans (e27.trans (e34.trans e40)))).updN u47 (by omega)).updN u52 (by omega)).ext (e317.trans e369))
    obtain⟨v370,hr375,hb372,u373,hs374⟩:=run_stored (P:=Tryz.prog) (us:= [.bool s30,.slice A30 n30 c30]) (off:=0) aggInt rfl hb371 (bq rfl) rfl [.bool s30,.slice A30 n30 c30] rfl
    have hw12:=u373.ext hw11 ge16
    have hb377:=(((((hb21.ext (e27.trans (e34.trans e40))).updN u47 (by omega)).updN u52 (by omega)).ext (e317.trans e369)).updN u373 (by omega))
    obtain⟨v376,hr381,hb378,u379,hs380⟩:=run_stored (P:=Tryz.prog) (us:= [.bool s31,.slice A31 n31 c31]) (off:=0) aggInt rfl hb377 (bq rfl) rfl [.bool s31,.slice A31 n31 c31] rfl
    have hw13:=u379.ext hw12 ge22
    refine cw_det mix (w:=v368) [.agg #[.bool s30,.slice A30 n30 c30],.agg #[.bool s31,.slice A31 n31 c31],.int .i64 (eZ y),undef,undef,.int .i64 (eZ y)] [v368,v370,v376] [3,4] [[],[],[],[0],[1],[2]] [[],[],[],[0],[0,1,3],[0,1,2,3,4]] [(0,0),(1,0),(1,1),(2,0),(2,1),(2,2),(3,0),(4,1),(5,2)] rfl hv ?_ ?_
    · 
     refine dobs_val _ rfl rfl rfl rfl rfl (rd_load rfl (load_agg aggInt ((hb46.updN u52 (by omega)).ext (e317.trans e369)) [.bool s30,.slice A30 n30 c30] rfl (bq rfl) rfl)) (dobs_val _ rfl rfl rfl rfl rfl (rd_load rfl (load_agg aggInt (hb51.ext (e317.trans e369)) [.bool s31,.slice A31 n31 c31] rfl (bq rfl) rfl)) (dobs_val _ rfl rfl rfl rfl rfl (rd_load rfl (load_agg aggInt ((hb51.ext (e317.trans e369)).updN u373 (by omega)) [.bool s31,.slice A31 n31 c31] rfl (bq rfl) rfl)) (dobs_val _ rfl rfl rfl rfl rfl (rd_move rfl) (dobs_val _ rfl rfl rfl rfl rfl (rd_move rfl) (dobs_val _ rfl rfl rfl rfl rfl (rd_move rfl) (dobs_sto _ rfl rfl rfl rfl rfl (rd_store rfl rfl hr375) (dobs_sto _ rfl rfl rfl rfl rfl (rd_store rfl rfl hr381) (dobs_val _ rfl rfl rfl rfl rfl (rd_assign rfl) ?_))))))))
     exact dobs_nil
    clear hv
    refine eo_keep [(3,.pointer (some ⟨g6,0,none⟩)),(4,.pointer (some ⟨g12,0,none⟩)),(5,.pointer (some ⟨g18,0,none⟩)),(7,.pointer (some ⟨g32,0,none⟩)),(8,.pointer (some ⟨g38,0,none⟩)),(6,.int .i64 (eZ y))] ⟨rfl,rfl,rfl,rfl,rfl,rfl,trivial⟩ (eo_then (cw_ret (eo_thenR (eo_ret [.agg #[.bool s30,.slice A30 n30 c30],.agg #[.bool s31,.slice A31 n31 c31],.int .i64 (eZ y)] rfl ⟨⟨_,rfl,load_agg aggInt (hb372.updN u379 (by omega)) [.bool s30,.slice A30 n30 c30] rfl (bq rfl) rfl⟩,⟨_,rfl,load_agg aggInt hb378 [.bool s31,.slice A31 n31 c31] rfl (bq rfl) rfl⟩,rfl,trivial⟩ ?_))))
    exact⟨_,rfl,⟨_,_,_,rfl,⟨_,_,_,_,rfl,(((((((z30.ext (e34.trans e40)).updT hb45 u47).updT hb50 u52).ext (e317.trans e369)).updT hb371 u373).updT hb377 u379)).cast (by simp only [qF,rF,if_neg h0,←hr,hq,if_pos hk])⟩,⟨_,_,_,_,rfl,(((((((z31.ext (e34.trans e40)).updT hb45 u47).updT hb50 u52).ext (e317.trans e369)).updT hb371 u373).updT hb377 u379)).cast (by simp only [qF,rF,if_neg h0,←hr,hq,if_pos hk])⟩,rfl⟩,hw13⟩
  · 
   refine cw_draw mix 10 [] [Is (.int .i64 (eZ y)),Is (.bool false),Is (.bool false),Is (.agg #[.bool s31,.slice A31 n31 c31]),Is (.int .i64 (scmp (rT x y) 0)),Is (.agg #[.bool sb,.slice Ab nb cb]),Is (.int .i64 (scmp y 0)),Is (.int .i64 (scmp (rT x y) 0*scmp y 0)),Is (.bool false),Is (.bool false)] [[],[0],[1],[2],[2,3],[2],[2,5],[2,4,6],[2,7],[2,8]] [[],[0],[0,1],[0,1,2],[0,1,2,3],[0,1,2],[0,1,2,3,4,5],[0,1,2,3,4,5,6],[0,1,2,3,4,5,6,7],[0,1,2,3,4,5,6,7,8]] rfl
    (obs_cons rfl rfl (hob rfl rfl ?_) (obs_cons rfl rfl (hob rfl rfl ?_) (obs_cons rfl rfl (hob rfl rfl ?_) (obs_cons rfl rfl (hob rfl rfl ?_) (obs_cons rfl rfl (hob rfl rfl ?_) (obs_cons rfl rfl (hob rfl rfl ?_) (obs_cons rfl rfl (hob rfl rfl ?_) (obs_cons rfl rfl (hob rfl rfl ?_) (obs_cons rfl rfl (hob rfl rfl ?_) (obs_cons rfl rfl (hob rfl rfl ?_) obs_nil)))))))))) ?_
   · 
    exact fun _ _=>deps_nil (mv 1 rfl (pi_done rfl (Ext.refl _) rfl))
   · 
    exact fun _ _=>dk rfl rfl (deps_nil (wl_cmp rfl rfl rfl false (ne_f (by omega)) (by decide) (pi_done rfl (Ext.refl _) rfl)))
   · 
    exact fun _ _=>dk rfl rfl (deps_nil (mv 1 rfl (pi_done rfl (Ext.refl _) rfl)))
   · 
    exact fun _ e399=>dk rfl rfl (deps_nil (lo aggInt (hb51.ext e399) [.bool s31,.slice A31 n31 c31] rfl rfl rfl (pi_done rfl (Ext.refl _) rfl)))
   · 
    intro v405 e406
    have hw10:=hw9.trans e406
    refine dk rfl rfl (dk rfl rfl (deps_nil (cl (vs:= [.agg #[.bool s31,.slice A31 n31 c31]]) hw10 (g_ref5_Sign ((((z31.ext (e34.trans e40)).updT hb45 u47).updT hb50 u52).ext e406).zi (z31.le (lx_ L25 rfl))) rfl (by kernel_rfl) fun xr419 v417 r419 e418 hw11=>?_)))
    obtain rfl:=r419
    exact pi_done rfl e418 rfl
   · 
    exact fun _ e421=>dk rfl rfl (deps_nil (lo aggInt ((((hb9.ext (e14.trans (e20.trans (e27.trans (e34.trans e40))))).updN u47 (by omega)).updN u52 (by omega)).ext e421) [.bool sb,.slice Ab nb cb] rfl rfl rfl (pi_done rfl (Ext.refl _) rfl)))
   · 
    intro v427 e428
    have hw10:=hw9.trans e428
    refine dk rfl rfl (dk rfl rfl (deps_nil (cl (vs:= [.agg #[.bool sb,.slice Ab nb cb]]) hw10 (g_ref5_Sign (hy.ext hw10) (lx_ lb rfl)) rfl (by kernel_rfl) fun xr441 v439 r441 e440 hw11=>?_)))
    obtain rfl:=r441
    exact pi_done rfl e440 rfl
   · 
    exact fun _ _=>dk rfl rfl (dk rfl rfl (dk rfl rfl (deps_nil (wl_ar rfl rfl rfl (scmp (rT x y) 0*scmp y 0) (ar_i64m rfl (by have:=scmp_mul_bd (rT x y) 0 y 0;omega) (by have:=scmp_mul_bd (rT x y) 0 y 0;omega)) (by decide) (pi_done rfl (Ext.refl _) rfl)))))
   · 
    exact fun _ _=>dk rfl rfl (dk rfl rfl (deps_nil (wl_cmp rfl rfl rfl false (ge_f (by omega)) (by decide) (pi_done rfl (Ext.refl _) rfl))))
   · 
    exact fun _ _=>dk rfl rfl (dk rfl rfl (deps_nil (pu (v:= .bool false) rfl (by kernel_rfl) (pi_done rfl (Ext.refl _) rfl))))
   · 
    intro v483 e484
    have hw10:=hw9.trans e484
    refine dk rfl rfl (dk rfl rfl (dk rfl rfl (dk rfl rfl (dk rfl rfl (dk rfl rfl (dk rfl rfl (dk rfl rfl (dk rfl rfl (dk rfl rfl (deps_nil (wl_nil (eo_np (eo_then ?_)))))))))))))
    refine cw_false rfl (cw_skip (eo_then (cw_seq ?_)))
    have L536:ln ((qT x y)-1)≤1048577:=Nat.le_trans (ln_sub L24 (show ln (1)≤1 by decide+kernel)) (by decide)
    refine cw_draw mix 3 [] [Is (.agg #[.bool s30,.slice A30 n30 c30]),ZR w.heap.size (1),ZR w.heap.size ((qT x y)-1)] [[],[],[0,1]] [[],[],[0,1],[0,1,2]] rfl
     (obs_cons rfl rfl (hob rfl rfl ?_) (obs_cons rfl rfl (hob rfl rfl ?_) (obs_cons rfl rfl (hob rfl rfl ?_) obs_nil))) ?_
    · 
     exact fun _ e539=>deps_nil (lo aggInt ((hb46.updN u52 (by omega)).ext (e484.trans e539)) [.bool s30,.slice A30 n30 c30] rfl rfl rfl (pi_done rfl (Ext.refl _) rfl))
    · 
     intro v540 e541
     have hw11:=hw10.trans e541
     refine deps_nil (cl (vs:= [.int .i64 1]) hw11 (g_ref5_Of hw11.size (by decide) (by decide)) rfl (by kernel_rfl) fun xr544 v542 r544 e543 hw12=>?_)
     obtain⟨s545,A545,n545,c545,rfl,z545⟩:=r544
     exact pi_done rfl e543 ⟨_,_,_,_,rfl,z545⟩
    · 
     intro v546 e547
     have hw11:=hw10.trans e547
     refine dk rfl rfl (deps_cons rfl rfl fun x553 y554 h555 e556 f557=>?_)
     obtain⟨s558,A558,n558,c558,rfl,z558⟩:=h555
     have z558:=z558.ext f557
     refine deps_nil ?_
     have L559:ln ((qT x y)-1)≤1048577:=Nat.le_trans (ln_sub L24 (show ln (1)≤1 by decide+kernel)) (by decide)
     refine cl (vs:= [.agg #[.bool s30,.slice A30 n30 c30],.agg #[.bool s558,.slice A558 n558 c558]]) hw11 (g_ref5_Sub hw11.size ((((z30.ext (e34.trans e40)).updT hb45 u47).updT hb50 u52).ext (e484.trans e547)).zi (z30.le (lx_ L24 rfl)) z558.zi (z558.le (Nat.le_trans (show ln (1)≤1 by decide+kernel) (by decide)))) rfl (by kernel_rfl) fun xr562 v560 r562 e561 hw12=>?_
     obtain⟨s563,A563,n563,c563,rfl,z563⟩:=r562
     exact pi_done rfl e561 ⟨_,_,_,_,rfl,z563⟩
    · 
     intro v564 e565
     have hw11:=hw10.trans e565
     refine dk rfl rfl (deps_cons rfl rfl fun x571 y572 h573 e574 f575=>?_)
     obtain⟨s576,A576,n576,c576,rfl,z576⟩:=h573
     have z576:=z576.ext f575
     refine deps_cons rfl rfl fun x577 y578 h579 e580 f581=>?_
     obtain⟨s582,A582,n582,c582,rfl,z582⟩:=h579
     have z582:=z582.ext f581
     refine deps_nil ?_
     have hb584:=((hb46.updN u52 (by omega)).ext (e484.trans e565))
     refine so aggInt hb584 [.bool s582,.slice A582 n582 c582] hw11 ge36 rfl rfl rfl rfl fun v583 hb585 u586 hw12=>(wl_nil (eo_np (eo_then (sr (lo aggInt ((hb51.ext (e484.trans e565)).updN u586 (by omega)) [.bool s31,.slice A31 n31 c31] rfl rfl rfl (lo aggInt (((((hb9.ext (e14.trans (e20.trans (e27.trans (e34.trans e40))))).updN u47 (by omega)).updN u52 (by omega)).ext (e484.trans e565)).updN u586 (by omega)) [.bool sb,.slice Ab nb cb] rfl rfl rfl ?_))))))
     have L588:ln ((rT x y)+y)≤1048577:=Nat.le_trans (ln_add L25 Ly) (by decide)
     refine cl (vs:= [.agg #[.bool s31,.slice A31 n31 c31],.agg #[.bool sb,.slice Ab nb cb]]) hw12 (g_ref5_Add hw12.size (((((z31.ext (e34.trans e40)).updT hb45 u47).updT hb50 u52).ext (e484.trans e565)).updT hb584 u586).zi (z31.le (lx_ L25 rfl)) (hy.ext hw12) (lx_ lb rfl)) rfl (by kernel_rfl) fun xr591 v589 r591 e590 hw13=>?_
     obtain⟨s592,A592,n592,c592,rfl,z592⟩:=r591
     have hb594:=(((hb51.ext (e484.trans e565)).updN u586 (by omega)).ext e590)
     refine so aggInt hb594 [.bool s592,.slice A592 n592 c592] hw13 ge42 rfl rfl rfl rfl fun v593 hb595 u596 hw14=>(ne_ (cw_seq (cw_keep [(4,.pointer (some ⟨g12,0,none⟩)),(5,.pointer (some ⟨g18,0,none⟩)),(7,.pointer (some ⟨g32,0,none⟩)),(8,.pointer (some ⟨g38,0,none⟩))] ⟨rfl,rfl,rfl,rfl,trivial⟩ ?_)))
     obtain⟨v598,hv,e599⟩:∃v,v=v593.drew∧Ext v593 v:=⟨_,rfl,(Ext.refl _).drew⟩
     have hw15:=hw14.trans e599
     have hb601:=((((((((hb15.ext (e20.trans (e27.trans (e34.trans e40)))).updN u47 (by omega)).updN u52 (by omega)).ext (e484.trans e565)).updN u586 (by omega)).ext e590).updN u596 (by omega)).ext e599)
     obtain⟨v600,hr605,hb602,u603,hs604⟩:=run_stored (P:=Tryz.prog) (us:= [.bool s582,.slice A582 n582 c582]) (off:=0) aggInt rfl hb601 (bq rfl) rfl [.bool s582,.slice A582 n582 c582] rfl
     have hw16:=u603.ext hw15 ge16
     have hb607:=(((((((((hb21.ext (e27.trans (e34.trans e40))).updN u47 (by omega)).updN u52 (by omega)).ext (e484.trans e565)).updN u586 (by omega)).ext e590).updN u596 (by omega)).ext e599).updN u603 (by omega))
     obtain⟨v606,hr611,hb608,u609,hs610⟩:=run_stored (P:=Tryz.prog) (us:= [.bool s592,.slice A592 n592 c592]) (off:=0) aggInt rfl hb607 (bq rfl) rfl [.bool s592,.slice A592 n592 c592] rfl
     have hw17:=u609.ext hw16 ge22
     refine cw_det mix (w:=v598) [.agg #[.bool s582,.slice A582 n582 c582],.agg #[.bool s592,.slice A592 n592 c592],undef,undef,I0] [v598,v600,v606] [2,3] [[],[],[0],[1],[]] [[],[],[0],[0,1,2],[0,1,2,3]] [(0,0),(1,0),(1,1),(2,0),(3,1),(4,2)] rfl hv ?_ ?_
     · 
      refine dobs_val _ rfl rfl rfl rfl rfl (rd_load rfl (load_agg aggInt (((hb585.ext e590).updN u596 (by omega)).ext e599) [.bool s582,.slice A582 n582 c582] rfl (bq rfl) rfl)) (dobs_val _ rfl rfl rfl rfl rfl (rd_load rfl (load_agg aggInt (hb595.ext e599) [.bool s592,.slice A592 n592 c592] rfl (bq rfl) rfl)) (dobs_val _ rfl rfl rfl rfl rfl (rd_load rfl (load_agg aggInt ((hb595.ext e599).updN u603 (by omega)) [.bool s592,.slice A592 n592 c592] rfl (bq rfl) rfl)) (dobs_sto _ rfl rfl rfl rfl rfl (rd_store rfl rfl hr605) (dobs_sto _ rfl rfl rfl rfl rfl (rd_store rfl rfl hr611) (dobs_val _ rfl rfl rfl rfl rfl (rd_assign rfl) ?_)))))
      exact dobs_nil
     clear hv
     refine eo_keep [(4,.pointer (some ⟨g12,0,none⟩)),(5,.pointer (some ⟨g18,0,none⟩)),(6,.int .i64 0)] ⟨rfl,rfl,rfl,trivial⟩ (eo_then (cw_ret (eo_ret [.agg #[.bool s582,.slice A582 n582 c582],.agg #[.bool s592,.slice A592 n592 c592],I0] rfl ⟨⟨_,rfl,load_agg aggInt (hb602.updN u609 (by omega)) [.bool s582,.slice A582 n582 c582] rfl (bq rfl) rfl⟩,⟨_,rfl,load_agg aggInt hb608 [.bool s592,.slice A592 n592 c592] rfl (bq rfl) rfl⟩,rfl,trivial⟩ ?_)))
     exact⟨_,rfl,⟨_,_,_,rfl,⟨_,_,_,_,rfl,(((((((z582.updT hb584 u586).ext e590).updT hb594 u596).ext e599).updT hb601 u603).updT hb607 u609)).cast (by simp only [qF,rF,if_neg h0,←hr,hq,if_neg hk])⟩,⟨_,_,_,_,rfl,(((((z592.updT hb594 u596).ext e599).updT hb601 u603).updT hb607 u609)).cast (by simp only [qF,rF,if_neg h0,←hr,hq,if_neg hk])⟩,(show (.int .i64 0:Value)=_ by simp only [eX,eZ,if_neg h0])⟩,hw17⟩
set_option maxHeartbeats 4000000 in
theorem j_ref5_Euclid {w:World}{sa:Bool}{Aa:Option Addr}{na ca:Nat}{x:Int}{sb:Bool}{Ab:Option Addr}{nb cb:Nat}{y:Int}{b:Nat}(hb:b≤w.heap.size) (hx:Zi w sa Aa na ca x) (la:na≤1048576) (hy:Zi w sb Ab nb cb y) (lb:nb≤1048576):
    Calls Tryz.prog 109 #[.agg #[.bool sa,.slice Aa na ca],.agg #[.bool sb,.slice Ab nb cb]] w (Gv w (T3 (ZR b (qE x y)) (ZR b (rEu x y)) (Is (.int .i64 (eZ y))))):=by
 refine Calls.mono (R:=Gv w (T3 (ZR w.heap.size (qE x y)) (ZR w.heap.size (rEu x y)) (Is (.int .i64 (eZ y))))) ?_ (Gv.imp (T3.imp (ZR.imp hb) (ZR.imp hb) Is.imp))
 have Lx:ln x≤1048576:=Nat.le_trans hx.ln la
 have Ly:ln y≤1048576:=Nat.le_trans hy.ln lb
 refine sx_enter Tryz.func109 rfl (n:=42) rfl (bq rfl) (args:= [.agg #[.bool sa,.slice Aa na ca],.agg #[.bool sb,.slice Ab nb cb]]) (cw_keep [(0,.agg #[.bool sa,.slice Aa na ca]),(1,.agg #[.bool sb,.slice Ab nb cb])] ⟨rfl,rfl,trivial⟩ (sr (bx [.bool sa,.slice Aa na ca] (Ext.refl w) rfl rfl rfl fun g1 v2 hb4 ge5 e3 hw1=>(bxq [.bool sb,.slice Ab nb cb] hw1 hb4.lt rfl rfl rfl fun g6 v7 hb9 ge10 q11 e8 hw2=>(alq [F0,S0] hw2 hb9.lt (fun _=>by kernel_rfl) rfl fun g12 v13 hb15 ge16 q17 e14 hw3=>(alq [F0,S0] hw3 hb15.lt (fun _=>by kernel_rfl) rfl fun g18 v19 hb21 ge22 q23 e20 hw4=>(mv 1 rfl (ne_ (sr (lo aggInt (hb4.ext (e8.trans (e14.trans e20))) [.bool sa,.slice Aa na ca] rfl rfl rfl (lo aggInt (hb9.ext (e14.trans e20)) [.bool sb,.slice Ab nb cb] rfl rfl rfl ?_)))))))))))
 have L24:ln (qT x y)≤1048576:=ln_qT Lx
 have L25:ln (rT x y)≤1048576:=ln_rT Lx
 refine cl (vs:= [.agg #[.bool sa,.slice Aa na ca],.agg #[.bool sb,.slice Ab nb cb]]) hw4 (j_ref5_Trunc hw4.size (hx.ext hw4) (lx_ la rfl) (hy.ext hw4) (lx_ lb rfl)) rfl (by kernel_rfl) fun xr28 v26 r28 e27 hw5=>?_
 obtain⟨_,_,_,rfl,⟨s30,A30,n30,c30,rfl,z30⟩,⟨s31,A31,n31,c31,rfl,z31⟩,rfl⟩:=r28
 refine mv 1 rfl (pu (v:= .agg #[.bool s30,.slice A30 n30 c30]) rfl (by kernel_rfl) (pu (v:= .agg #[.bool s31,.slice A31 n31 c31]) rfl (by kernel_rfl) (pu (v:= .int .i64 (eZ y)) rfl (by kernel_rfl) (alq [F0,S0] hw5 (hb21.ext e27).lt (fun _=>by kernel_rfl) rfl fun g32 v33 hb35 ge36 q37 e34 hw6=>(alq [F0,S0] hw6 hb35.lt (fun _=>by kernel_rfl) rfl fun g38 v39 hb41 ge42 q43 e40 hw7=>?_)))))
 have hb45:=(hb35.ext e40)
 refine so aggInt hb45 [.bool s30,.slice A30 n30 c30] hw7 ge36 rfl rfl rfl rfl fun v44 hb46 u47 hw8=>?_
 have hb50:=(hb41.updN u47 (by omega))
 refine so aggInt hb50 [.bool s31,.slice A31 n31 c31] hw8 ge42 rfl rfl rfl rfl fun v49 hb51 u52 hw9=>(mv 1 rfl (ne_ (cw_seq (cw_seq ?_))))
 by_cases h0:y=0
 · 
  have he:eZ y=4:=if_pos h0
  refine cw_region (mv 1 rfl (wl_cmp rfl rfl rfl true (ne_t (by omega)) (by decide) (mv 4 rfl (pu (v:= .bool true) rfl (by kernel_rfl) (ne_ (cw_true rfl (cw_seq (cw_keep [(3,.pointer (some ⟨g6,0,none⟩)),(4,.pointer (some ⟨g12,0,none⟩)),(5,.pointer (some ⟨g18,0,none⟩)),(7,.pointer (some ⟨g32,0,none⟩)),(8,.pointer (some ⟨g38,0,none⟩)),(9,.int .i64 (eZ y))] ⟨rfl,rfl,rfl,rfl,rfl,rfl,trivial⟩ ?_))))))))
  obtain⟨v54,hv,e55⟩:∃v,v=v49.drew∧Ext v49 v:=⟨_,rfl,(Ext.refl _).drew⟩
  have hw10:=hw9.trans e55
  have hb57:=((((hb15.ext (e20.trans (e27.trans (e34.trans e40)))).updN u47 (by omega)).updN u52 (by omega)).ext e55)
  obtain⟨v56,hr61,hb58,u59,hs60⟩:=run_stored (P:=Tryz.prog) (us:= [.bool s30,.slice A30 n30 c30]) (off:=0) aggInt rfl hb57 (bq rfl) rfl [.bool s30,.slice A30 n30 c30] rfl
  have hw11:=u59.ext hw10 ge16
  have hb63:=(((((hb21.ext (e27.trans (e34.trans e40))).updN u47 (by omega)).updN u52 (by omega)).ext e55).updN u59 (by omega))
  obtain⟨v62,hr67,hb64,u65,hs66⟩:=run_stored (P:=Tryz.prog) (us:= [.bool s31,.slice A31 n31 c31]) (off:=0) aggInt rfl hb63 (bq rfl) rfl [.bool s31,.slice A31 n31 c31] rfl
  have hw12:=u65.ext hw11 ge22
  refine cw_det mix (w:=v54) [.agg #[.bool s30,.slice A30 n30 c30],.agg #[.bool s31,.slice A31 n31 c31],.int .i64 (eZ y),undef,undef,.int .i64 (eZ y)] [v54,v56,v62] [3,4] [[],[],[],[0],[1],[2]] [[],[],[],[0],[0,1,3],[0,1,2,3,4]] [(0,0),(1,0),(1,1),(2,0),(2,1),(2,2),(3,0),(4,1),(5,2)] rfl hv ?_ ?_
  · 
   refine dobs_val _ rfl rfl rfl rfl rfl (rd_load rfl (load_agg aggInt ((hb46.updN u52 (by omega)).ext e55) [.bool s30,.slice A30 n30 c30] rfl (bq rfl) rfl)) (dobs_val _ rfl rfl rfl rfl rfl (rd_load rfl (load_agg aggInt (hb51.ext e55) [.bool s31,.slice A31 n31 c31] rfl (bq rfl) rfl)) (dobs_val _ rfl rfl rfl rfl rfl (rd_load rfl (load_agg aggInt ((hb51.ext e55).updN u59 (by omega)) [.bool s31,.slice A31 n31 c31] rfl (bq rfl) rfl)) (dobs_val _ rfl rfl rfl rfl rfl (rd_move rfl) (dobs_val _ rfl rfl rfl rfl rfl (rd_move rfl) (dobs_val _ rfl rfl rfl rfl rfl (rd_move rfl) (dobs_sto _ rfl rfl rfl rfl rfl (rd_store rfl rfl hr61) (dobs_sto _ rfl rfl rfl rfl rfl (rd_store rfl rfl hr67) (dobs_val _ rfl rfl rfl rfl rfl (rd_assign rfl) ?_))))))))
   exact dobs_nil
  clear hv
  refine eo_keep [(3,.pointer (some ⟨g6,0,none⟩)),(4,.pointer (some ⟨g12,0,none⟩)),(5,.pointer (some ⟨g18,0,none⟩)),(7,.pointer (some ⟨g32,0,none⟩)),(8,.pointer (some ⟨g38,0,none⟩)),(6,.int .i64 (eZ y))] ⟨rfl,rfl,rfl,rfl,rfl,rfl,trivial⟩ (eo_then (cw_ret (eo_thenR (eo_ret [.agg #[.bool s30,.slice A30 n30 c30],.agg #[.bool s31,.slice A31 n31 c31],.int .i64 (eZ y)] rfl ⟨⟨_,rfl,load_agg aggInt (hb58.updN u65 (by omega)) [.bool s30,.slice A30 n30 c30] rfl (bq rfl) rfl⟩,⟨_,rfl,load_agg aggInt hb64 [.bool s31,.slice A31 n31 c31] rfl (bq rfl) rfl⟩,rfl,trivial⟩ ?_))))
  exact⟨_,rfl,⟨_,_,_,rfl,⟨_,_,_,_,rfl,(((((((z30.ext (e34.trans e40)).updT hb45 u47).updT hb50 u52).ext e55).updT hb57 u59).updT hb63 u65)).cast (by simp only [qT,rT,qE,rEu,if_pos h0])⟩,⟨_,_,_,_,rfl,(((((((z31.ext (e34.trans e40)).updT hb45 u47).updT hb50 u52).ext e55).updT hb57 u59).updT hb63 u65)).cast (by simp only [qT,rT,qE,rEu,if_pos h0])⟩,rfl⟩,hw12⟩
 · 
  have he:eZ y=0:=if_neg h0
  have hq:qT x y=x.tdiv y:=if_neg h0
  have hr:rT x y=x.tmod y:=if_neg h0
  have he2:=Int.tdiv_mul_add_tmod x y
  have ha:=tmod_abs (x:=x) h0
  by_cases hk:0≤rT x y
  · 
   have hu:=eu_uniq (q:=qT x y) (r:=rT x y) (x:=x) h0 (by rw [hq,hr];exact he2) hk (by omega)
   refine cw_region (mv 1 rfl (wl_cmp rfl rfl rfl false (ne_f (by omega)) (by decide) (mv 1 rfl (lo aggInt hb51 [.bool s31,.slice A31 n31 c31] rfl rfl rfl (cl (vs:= [.agg #[.bool s31,.slice A31 n31 c31]]) hw9 (g_ref5_Sign (((z31.ext (e34.trans e40)).updT hb45 u47).updT hb50 u52).zi (z31.le (lx_ L25 rfl))) rfl (by kernel_rfl) fun xr70 v68 r70 e69 hw10=>?_)))))
   obtain rfl:=r70
   refine wl_cmp rfl rfl rfl true (scmp_ge_t hk) (by decide) (pu (v:= .bool true) rfl (by kernel_rfl) (ne_ (cw_true rfl (cw_seq (cw_keep [(3,.pointer (some ⟨g6,0,none⟩)),(4,.pointer (some ⟨g12,0,none⟩)),(5,.pointer (some ⟨g18,0,none⟩)),(7,.pointer (some ⟨g32,0,none⟩)),(8,.pointer (some ⟨g38,0,none⟩)),(9,.int .i64 (eZ y))] ⟨rfl,rfl,rfl,rfl,rfl,rfl,trivial⟩ ?_)))))
   obtain⟨v71,hv,e72⟩:∃v,v=v68.drew∧Ext v68 v:=⟨_,rfl,(Ext.refl _).drew⟩
   have hw11:=hw10.trans e72
   have hb74:=((((hb15.ext (e20.trans (e27.trans (e34.trans e40)))).updN u47 (by omega)).updN u52 (by omega)).ext (e69.trans e72))
   obtain⟨v73,hr78,hb75,u76,hs77⟩:=run_stored (P:=Tryz.prog) (us:= [.bool s30,.slice A30 n30 c30]) (off:=0) aggInt rfl hb74 (bq rfl) rfl [.bool s30,.slice A30 n30 c30] rfl
   have hw12:=u76.ext hw11 ge16
   have hb80:=(((((hb21.ext (e27.trans (e34.trans e40))).updN u47 (by omega)).updN u52 (by omega)).ext (e69.trans e72)).updN u76 (by omega))
   obtain⟨v79,hr84,hb81,u82,hs83⟩:=run_stored (P:=Tryz.prog) (us:= [.bool s31,.slice A31 n31 c31]) (off:=0) aggInt rfl hb80 (bq rfl) rfl [.bool s31,.slice A31 n31 c31] rfl
   have hw13:=u82.ext hw12 ge22
   refine cw_det mix (w:=v71) [.agg #[.bool s30,.slice A30 n30 c30],.agg #[.bool s31,.slice A31 n31 c31],.int .i64 (eZ y),undef,undef,.int .i64 (eZ y)] [v71,v73,v79] [3,4] [[],[],[],[0],[1],[2]] [[],[],[],[0],[0,1,3],[0,1,2,3,4]] [(0,0),(1,0),(1,1),(2,0),(2,1),(2,2),(3,0),(4,1),(5,2)] rfl hv ?_ ?_
   · 
    refine dobs_val _ rfl rfl rfl rfl rfl (rd_load rfl (load_agg aggInt ((hb46.updN u52 (by omega)).ext (e69.trans e72)) [.bool s30,.slice A30 n30 c30] rfl (bq rfl) rfl)) (dobs_val _ rfl rfl rfl rfl rfl (rd_load rfl (load_agg aggInt (hb51.ext (e69.trans e72)) [.bool s31,.slice A31 n31 c31] rfl (bq rfl) rfl)) (dobs_val _ rfl rfl rfl rfl rfl (rd_load rfl (load_agg aggInt ((hb51.ext (e69.trans e72)).updN u76 (by omega)) [.bool s31,.slice A31 n31 c31] rfl (bq rfl) rfl)) (dobs_val _ rfl rfl rfl rfl rfl (rd_move rfl) (dobs_val _ rfl rfl rfl rfl rfl (rd_move rfl) (dobs_val _ rfl rfl rfl rfl rfl (rd_move rfl) (dobs_sto _ rfl rfl rfl rfl rfl (rd_store rfl rfl hr78) (dobs_sto _ rfl rfl rfl rfl rfl (rd_store rfl rfl hr84) (dobs_val _ rfl rfl rfl rfl rfl (rd_assign rfl) ?_))))))))
    exact dobs_nil
   clear hv
   refine eo_keep [(3,.pointer (some ⟨g6,0,none⟩)),(4,.pointer (some ⟨g12,0,none⟩)),(5,.pointer (some ⟨g18,0,none⟩)),(7,.pointer (some ⟨g32,0,none⟩)),(8,.pointer (some ⟨g38,0,none⟩)),(6,.int .i64 (eZ y))] ⟨rfl,rfl,rfl,rfl,rfl,rfl,trivial⟩ (eo_then (cw_ret (eo_thenR (eo_ret [.agg #[.bool s30,.slice A30 n30 c30],.agg #[.bool s31,.slice A31 n31 c31],.int .i64 (eZ y)] rfl ⟨⟨_,rfl,load_agg aggInt (hb75.updN u82 (by omega)) [.bool s30,.slice A30 n30 c30] rfl (bq rfl) rfl⟩,⟨_,rfl,load_agg aggInt hb81 [.bool s31,.slice A31 n31 c31] rfl (bq rfl) rfl⟩,rfl,trivial⟩ ?_))))
   exact⟨_,rfl,⟨_,_,_,rfl,⟨_,_,_,_,rfl,(((((((z30.ext (e34.trans e40)).updT hb45 u47).updT hb50 u52).ext (e69.trans e72)).updT hb74 u76).updT hb80 u82)).cast (by unfold qE;rw [if_neg h0];exact hu.1)⟩,⟨_,_,_,_,rfl,(((((((z31.ext (e34.trans e40)).updT hb45 u47).updT hb50 u52).ext (e69.trans e72)).updT hb74 u76).updT hb80 u82)).cast (by unfold rEu;rw [if_neg h0];exact hu.2)⟩,rfl⟩,hw13⟩
  · 
   refine cw_region (mv 1 rfl (wl_cmp rfl rfl rfl false (ne_f (by omega)) (by decide) (mv 1 rfl (lo aggInt hb51 [.bool s31,.slice A31 n31 c31] rfl rfl rfl (cl (vs:= [.agg #[.bool s31,.slice A31 n31 c31]]) hw9 (g_ref5_Sign (((z31.ext (e34.trans e40)).updT hb45 u47).updT hb50 u52).zi (z31.le (lx_ L25 rfl))) rfl (by kernel_rfl) fun xr87 v85 r87 e86 hw10=>?_)))))
   obtain rfl:=r87
   refine wl_cmp rfl rfl rfl false (scmp_ge_f (by omega)) (by decide) (pu (v:= .bool false) rfl (by kernel_rfl) (ne_ (cw_false rfl (cw_skip (eo_then (cw_seq (cw_seq ?_)))))))
   by_cases hp:0<y
   · 
    have hu:=eu_uniq (q:=qT x y-1) (r:=rT x y+(Int.natAbs y:Int)) (x:=x) h0 (by rw [Int.sub_mul,Int.one_mul,hq,hr];omega) (by omega) (by omega)
    refine cw_region (lo aggInt ((((hb9.ext (e14.trans (e20.trans (e27.trans (e34.trans e40))))).updN u47 (by omega)).updN u52 (by omega)).ext e86) [.bool sb,.slice Ab nb cb] rfl rfl rfl (cl (vs:= [.agg #[.bool sb,.slice Ab nb cb]]) hw10 (g_ref5_Sign (hy.ext hw10) (lx_ lb rfl)) rfl (by kernel_rfl) fun xr90 v88 r90 e89 hw11=>?_))
    obtain rfl:=r90
    refine wl_cmp rfl rfl rfl true (scmp_gt_t hp) (by decide) (ne_ (cw_true rfl ?_))
    have L92:ln ((qT x y)-1)≤1048577:=Nat.le_trans (ln_sub L24 (show ln (1)≤1 by decide+kernel)) (by decide)
    refine cw_draw mix 3 [] [Is (.agg #[.bool s30,.slice A30 n30 c30]),ZR w.heap.size (1),ZR w.heap.size ((qT x y)-1)] [[],[],[0,1]] [[],[],[0,1],[0,1,2]] rfl
     (obs_cons rfl rfl (hob rfl rfl ?_) (obs_cons rfl rfl (hob rfl rfl ?_) (obs_cons rfl rfl (hob rfl rfl ?_) obs_nil))) ?_
    · 
     exact fun _ e95=>deps_nil (lo aggInt ((hb46.updN u52 (by omega)).ext (e86.trans (e89.trans e95))) [.bool s30,.slice A30 n30 c30] rfl rfl rfl (pi_done rfl (Ext.refl _) rfl))
    · 
     intro v96 e97
     have hw12:=hw11.trans e97
     refine deps_nil (cl (vs:= [.int .i64 1]) hw12 (g_ref5_Of hw12.size (by decide) (by decide)) rfl (by kernel_rfl) fun xr100 v98 r100 e99 hw13=>?_)
     obtain⟨s101,A101,n101,c101,rfl,z101⟩:=r100
     exact pi_done rfl e99 ⟨_,_,_,_,rfl,z101⟩
    · 
     intro v102 e103
     have hw12:=hw11.trans e103
     refine dk rfl rfl (deps_cons rfl rfl fun x109 y110 h111 e112 f113=>?_)
     obtain⟨s114,A114,n114,c114,rfl,z114⟩:=h111
     have z114:=z114.ext f113
     refine deps_nil ?_
     have L115:ln ((qT x y)-1)≤1048577:=Nat.le_trans (ln_sub L24 (show ln (1)≤1 by decide+kernel)) (by decide)
     refine cl (vs:= [.agg #[.bool s30,.slice A30 n30 c30],.agg #[.bool s114,.slice A114 n114 c114]]) hw12 (g_ref5_Sub hw12.size ((((z30.ext (e34.trans e40)).updT hb45 u47).updT hb50 u52).ext (e86.trans (e89.trans e103))).zi (z30.le (lx_ L24 rfl)) z114.zi (z114.le (Nat.le_trans (show ln (1)≤1 by decide+kernel) (by decide)))) rfl (by kernel_rfl) fun xr118 v116 r118 e117 hw13=>?_
     obtain⟨s119,A119,n119,c119,rfl,z119⟩:=r118
     exact pi_done rfl e117 ⟨_,_,_,_,rfl,z119⟩
    · 
     intro v120 e121
     have hw12:=hw11.trans e121
     refine dk rfl rfl (deps_cons rfl rfl fun x127 y128 h129 e130 f131=>?_)
     obtain⟨s132,A132,n132,c132,rfl,z132⟩:=h129
     have z132:=z132.ext f131
     refine deps_cons rfl rfl fun x133 y134 h135 e136 f137=>?_
     obtain⟨s138,A138,n138,c138,rfl,z138⟩:=h135
     have z138:=z138.ext f137
     refine deps_nil ?_
     have hb140:=((hb46.updN u52 (by omega)).ext (e86.trans (e89.trans e121)))
     refine so aggInt hb140 [.bool s138,.slice A138 n138 c138] hw12 ge36 rfl rfl rfl rfl fun v139 hb141 u142 hw13=>(wl_nil (eo_np (eo_then (cw_seq ?_))))
     have L144:ln ((Int.natAbs y:Int))≤1048576:=(by rw [ln_abs];exact Ly)
     have L146:ln ((rT x y)+(Int.natAbs y:Int))≤1048577:=Nat.le_trans (ln_add L25 L144) (by decide)
     refine cw_draw mix 4 [] [Is (.agg #[.bool s31,.slice A31 n31 c31]),Is (.agg #[.bool sb,.slice Ab nb cb]),ZR w.heap.size ((Int.natAbs y:Int)),ZR w.heap.size ((rT x y)+(Int.natAbs y:Int))] [[],[],[1],[0,2]] [[],[],[1],[0,1,2],[0,1,2,3]] rfl
      (obs_cons rfl rfl (hob rfl rfl ?_) (obs_cons rfl rfl (hob rfl rfl ?_) (obs_cons rfl rfl (hob rfl rfl ?_) (obs_cons rfl rfl (hob rfl rfl ?_) obs_nil)))) ?_
     · 
      exact fun _ e149=>deps_nil (lo aggInt (((hb51.ext (e86.trans (e89.trans e121))).updN u142 (by omega)).ext e149) [.bool s31,.slice A31 n31 c31] rfl rfl rfl (pi_done rfl (Ext.refl _) rfl))
     · 
      exact fun _ e151=>deps_nil (lo aggInt ((((((hb9.ext (e14.trans (e20.trans (e27.trans (e34.trans e40))))).updN u47 (by omega)).updN u52 (by omega)).ext (e86.trans (e89.trans e121))).updN u142 (by omega)).ext e151) [.bool sb,.slice Ab nb cb] rfl rfl rfl (pi_done rfl (Ext.refl _) rfl))
     · 
      intro v152 e153
      have hw14:=hw13.trans e153
      refine dk rfl rfl (deps_nil ?_)
      have L159:ln ((Int.natAbs y:Int))≤1048576:=(by rw [ln_abs];exact Ly)
      refine cl (vs:= [.agg #[.bool sb,.slice Ab nb cb]]) hw14 (g_ref5_Abs hw14.size (hy.ext hw14) (lx_ lb rfl)) rfl (by kernel_rfl) fun xr162 v160 r162 e161 hw15=>?_
      obtain⟨s163,A163,n163,c163,rfl,z163⟩:=r162
      exact pi_done rfl e161 ⟨_,_,_,_,rfl,z163⟩
     · 
      intro v164 e165
      have hw14:=hw13.trans e165
      refine dk rfl rfl (deps_cons rfl rfl fun x171 y172 h173 e174 f175=>?_)
      obtain⟨s176,A176,n176,c176,rfl,z176⟩:=h173
      have z176:=z176.ext f175
      refine deps_nil ?_
      have L177:ln ((rT x y)+(Int.natAbs y:Int))≤1048577:=Nat.le_trans (ln_add L25 L144) (by decide)
      refine cl (vs:= [.agg #[.bool s31,.slice A31 n31 c31],.agg #[.bool s176,.slice A176 n176 c176]]) hw14 (g_ref5_Add hw14.size ((((((z31.ext (e34.trans e40)).updT hb45 u47).updT hb50 u52).ext (e86.trans (e89.trans e121))).updT hb140 u142).ext e165).zi (z31.le (lx_ L25 rfl)) z176.zi (z176.le (lx_ L144 rfl))) rfl (by kernel_rfl) fun xr180 v178 r180 e179 hw15=>?_
      obtain⟨s181,A181,n181,c181,rfl,z181⟩:=r180
      exact pi_done rfl e179 ⟨_,_,_,_,rfl,z181⟩
     · 
      intro v182 e183
      have hw14:=hw13.trans e183
      refine dk rfl rfl (dk rfl rfl (deps_cons rfl rfl fun x194 y195 h196 e197 f198=>?_))
      obtain⟨s199,A199,n199,c199,rfl,z199⟩:=h196
      have z199:=z199.ext f198
      refine deps_cons rfl rfl fun x200 y201 h202 e203 f204=>?_
      obtain⟨s205,A205,n205,c205,rfl,z205⟩:=h202
      have z205:=z205.ext f204
      refine deps_nil ?_
      have hb207:=(((hb51.ext (e86.trans (e89.trans e121))).updN u142 (by omega)).ext e183)
      refine so aggInt hb207 [.bool s205,.slice A205 n205 c205] hw14 ge42 rfl rfl rfl rfl fun v206 hb208 u209 hw15=>(wl_nil (eo_np (eo_then (cw_seq (cw_keep [(4,.pointer (some ⟨g12,0,none⟩)),(5,.pointer (some ⟨g18,0,none⟩)),(7,.pointer (some ⟨g32,0,none⟩)),(8,.pointer (some ⟨g38,0,none⟩))] ⟨rfl,rfl,rfl,rfl,trivial⟩ ?_)))))
      obtain⟨v211,hv,e212⟩:∃v,v=v206.drew∧Ext v206 v:=⟨_,rfl,(Ext.refl _).drew⟩
      have hw16:=hw15.trans e212
      have hb214:=((((((((hb15.ext (e20.trans (e27.trans (e34.trans e40)))).updN u47 (by omega)).updN u52 (by omega)).ext (e86.trans (e89.trans e121))).updN u142 (by omega)).ext e183).updN u209 (by omega)).ext e212)
      obtain⟨v213,hr218,hb215,u216,hs217⟩:=run_stored (P:=Tryz.prog) (us:= [.bool s138,.slice A138 n138 c138]) (off:=0) aggInt rfl hb214 (bq rfl) rfl [.bool s138,.slice A138 n138 c138] rfl
      have hw17:=u216.ext hw16 ge16
      have hb220:=(((((((((hb21.ext (e27.trans (e34.trans e40))).updN u47 (by omega)).updN u52 (by omega)).ext (e86.trans (e89.trans e121))).updN u142 (by omega)).ext e183).updN u209 (by omega)).ext e212).updN u216 (by omega))
      obtain⟨v219,hr224,hb221,u222,hs223⟩:=run_stored (P:=Tryz.prog) (us:= [.bool s205,.slice A205 n205 c205]) (off:=0) aggInt rfl hb220 (bq rfl) rfl [.bool s205,.slice A205 n205 c205] rfl
      have hw18:=u222.ext hw17 ge22
      refine cw_det mix (w:=v211) [.agg #[.bool s138,.slice A138 n138 c138],.agg #[.bool s205,.slice A205 n205 c205],undef,undef,I0] [v211,v213,v219] [2,3] [[],[],[0],[1],[]] [[],[],[0],[0,1,2],[0,1,2,3]] [(0,0),(1,0),(1,1),(2,0),(3,1),(4,2)] rfl hv ?_ ?_
      · 
       refine dobs_val _ rfl rfl rfl rfl rfl (rd_load rfl (load_agg aggInt (((hb141.ext e183).updN u209 (by omega)).ext e212) [.bool s138,.slice A138 n138 c138] rfl (bq rfl) rfl)) (dobs_val _ rfl rfl rfl rfl rfl (rd_load rfl (load_agg aggInt (hb208.ext e212) [.bool s205,.slice A205 n205 c205] rfl (bq rfl) rfl)) (dobs_val _ rfl rfl rfl rfl rfl (rd_load rfl (load_agg aggInt ((hb208.ext e212).updN u216 (by omega)) [.bool s205,.slice A205 n205 c205] rfl (bq rfl) rfl)) (dobs_sto _ rfl rfl rfl rfl rfl (rd_store rfl rfl hr218) (dobs_sto _ rfl rfl rfl rfl rfl (rd_store rfl rfl hr224) (dobs_val _ rfl rfl rfl rfl rfl (rd_assign rfl) ?_)))))
       exact dobs_nil
      clear hv
      refine eo_keep [(4,.pointer (some ⟨g12,0,none⟩)),(5,.pointer (some ⟨g18,0,none⟩)),(6,.int .i64 0)] ⟨rfl,rfl,rfl,trivial⟩ (eo_then (cw_ret (eo_ret [.agg #[.bool s138,.slice A138 n138 c138],.agg #[.bool s205,.slice A205 n205 c205],I0] rfl ⟨⟨_,rfl,load_agg aggInt (hb215.updN u222 (by omega)) [.bool s138,.slice A138 n138 c138] rfl (bq rfl) rfl⟩,⟨_,rfl,load_agg aggInt hb221 [.bool s205,.slice A205 n205 c205] rfl (bq rfl) rfl⟩,rfl,trivial⟩ ?_)))
      exact⟨_,rfl,⟨_,_,_,rfl,⟨_,_,_,_,rfl,(((((((z138.updT hb140 u142).ext e183).updT hb207 u209).ext e212).updT hb214 u216).updT hb220 u222)).cast (by unfold qE;rw [if_neg h0];exact hu.1)⟩,⟨_,_,_,_,rfl,(((((z205.updT hb207 u209).ext e212).updT hb214 u216).updT hb220 u222)).cast (by unfold rEu;rw [if_neg h0];exact hu.2)⟩,(show (.int .i64 0:Value)=_ by simp only [eX,eZ,if_neg h0])⟩,hw18⟩
   · 
    have hu:=eu_uniq (q:=qT x y+1) (r:=rT x y+(Int.natAbs y:Int)) (x:=x) h0 (by rw [Int.add_mul,Int.one_mul,hq,hr];omega) (by omega) (by omega)
    refine cw_region (lo aggInt ((((hb9.ext (e14.trans (e20.trans (e27.trans (e34.trans e40))))).updN u47 (by omega)).updN u52 (by omega)).ext e86) [.bool sb,.slice Ab nb cb] rfl rfl rfl (cl (vs:= [.agg #[.bool sb,.slice Ab nb cb]]) hw10 (g_ref5_Sign (hy.ext hw10) (lx_ lb rfl)) rfl (by kernel_rfl) fun xr227 v225 r227 e226 hw11=>?_))
    obtain rfl:=r227
    refine wl_cmp rfl rfl rfl false (scmp_gt_f (by omega)) (by decide) (ne_ (cw_false rfl ?_))
    have L229:ln ((qT x y)+1)≤1048577:=Nat.le_trans (ln_add L24 (show ln (1)≤1 by decide+kernel)) (by decide)
    refine cw_draw mix 3 [] [Is (.agg #[.bool s30,.slice A30 n30 c30]),ZR w.heap.size (1),ZR w.heap.size ((qT x y)+1)] [[],[],[0,1]] [[],[],[0,1],[0,1,2]] rfl
     (obs_cons rfl rfl (hob rfl rfl ?_) (obs_cons rfl rfl (hob rfl rfl ?_) (obs_cons rfl rfl (hob rfl rfl ?_) obs_nil))) ?_
    · 
     exact fun _ e232=>deps_nil (lo aggInt ((hb46.updN u52 (by omega)).ext (e86.trans (e226.trans e232))) [.bool s30,.slice A30 n30 c30] rfl rfl rfl (pi_done rfl (Ext.refl _) rfl))
    · 
     intro v233 e234
     have hw12:=hw11.trans e234
     refine deps_nil (cl (vs:= [.int .i64 1]) hw12 (g_ref5_Of hw12.size (by decide) (by decide)) rfl (by kernel_rfl) fun xr237 v235 r237 e236 hw13=>?_)
     obtain⟨s238,A238,n238,c238,rfl,z238⟩:=r237
     exact pi_done rfl e236 ⟨_,_,_,_,rfl,z238⟩
    · 
     intro v239 e240
     have hw12:=hw11.trans e240
     refine dk rfl rfl (deps_cons rfl rfl fun x246 y247 h248 e249 f250=>?_)
     obtain⟨s251,A251,n251,c251,rfl,z251⟩:=h248
     have z251:=z251.ext f250
     refine deps_nil ?_
     have L252:ln ((qT x y)+1)≤1048577:=Nat.le_trans (ln_add L24 (show ln (1)≤1 by decide+kernel)) (by decide)
     refine cl (vs:= [.agg #[.bool s30,.slice A30 n30 c30],.agg #[.bool s251,.slice A251 n251 c251]]) hw12 (g_ref5_Add hw12.size ((((z30.ext (e34.trans e40)).updT hb45 u47).updT hb50 u52).ext (e86.trans (e226.trans e240))).zi (z30.le (lx_ L24 rfl)) z251.zi (z251.le (Nat.le_trans (show ln (1)≤1 by decide+kernel) (by decide)))) rfl (by kernel_rfl) fun xr255 v253 r255 e254 hw13=>?_
     obtain⟨s256,A256,n256,c256,rfl,z256⟩:=r255
     exact pi_done rfl e254 ⟨_,_,_,_,rfl,z256⟩
    · 
     intro v257 e258
     have hw12:=hw11.trans e258
     refine dk rfl rfl (deps_cons rfl rfl fun x264 y265 h266 e267 f268=>?_)
     obtain⟨s269,A269,n269,c269,rfl,z269⟩:=h266
     have z269:=z269.ext f268
     refine deps_cons rfl rfl fun x270 y271 h272 e273 f274=>?_
     obtain⟨s275,A275,n275,c275,rfl,z275⟩:=h272
     have z275:=z275.ext f274
     refine deps_nil ?_
     have hb277:=((hb46.updN u52 (by omega)).ext (e86.trans (e226.trans e258)))
     refine so aggInt hb277 [.bool s275,.slice A275 n275 c275] hw12 ge36 rfl rfl rfl rfl fun v276 hb278 u279 hw13=>(wl_nil (eo_np (eo_then (cw_seq ?_))))
     have L281:ln ((Int.natAbs y:Int))≤1048576:=(by rw [ln_abs];exact Ly)
     have L283:ln ((rT x y)+(Int.natAbs y:Int))≤1048577:=Nat.le_trans (ln_add L25 L281) (by decide)
     refine cw_draw mix 4 [] [Is (.agg #[.bool s31,.slice A31 n31 c31]),Is (.agg #[.bool sb,.slice Ab nb cb]),ZR w.heap.size ((Int.natAbs y:Int)),ZR w.heap.size ((rT x y)+(Int.natAbs y:Int))] [[],[],[1],[0,2]] [[],[],[1],[0,1,2],[0,1,2,3]] rfl
      (obs_cons rfl rfl (hob rfl rfl ?_) (obs_cons rfl rfl (hob rfl rfl ?_) (obs_cons rfl rfl (hob rfl rfl ?_) (obs_cons rfl rfl (hob rfl rfl ?_) obs_nil)))) ?_
     · 
      exact fun _ e286=>deps_nil (lo aggInt (((hb51.ext (e86.trans (e226.trans e258))).updN u279 (by omega)).ext e286) [.bool s31,.slice A31 n31 c31] rfl rfl rfl (pi_done rfl (Ext.refl _) rfl))
     · 
      exact fun _ e288=>deps_nil (lo aggInt ((((((hb9.ext (e14.trans (e20.trans (e27.trans (e34.trans e40))))).updN u47 (by omega)).updN u52 (by omega)).ext (e86.trans (e226.trans e258))).updN u279 (by omega)).ext e288) [.bool sb,.slice Ab nb cb] rfl rfl rfl (pi_done rfl (Ext.refl _) rfl))
     · 
      intro v289 e290
      have hw14:=hw13.trans e290
      refine dk rfl rfl (deps_nil ?_)
      have L296:ln ((Int.natAbs y:Int))≤1048576:=(by rw [ln_abs];exact Ly)
      refine cl (vs:= [.agg #[.bool sb,.slice Ab nb cb]]) hw14 (g_ref5_Abs hw14.size (hy.ext hw14) (lx_ lb rfl)) rfl (by kernel_rfl) fun xr299 v297 r299 e298 hw15=>?_
      obtain⟨s300,A300,n300,c300,rfl,z300⟩:=r299
      exact pi_done rfl e298 ⟨_,_,_,_,rfl,z300⟩
     · 
      intro v301 e302
      have hw14:=hw13.trans e302
      refine dk rfl rfl (deps_cons rfl rfl fun x308 y309 h310 e311 f312=>?_)
      obtain⟨s313,A313,n313,c313,rfl,z313⟩:=h310
      have z313:=z313.ext f312
      refine deps_nil ?_
      have L314:ln ((rT x y)+(Int.natAbs y:Int))≤1048577:=Nat.le_trans (ln_add L25 L281) (by decide)
      refine cl (vs:= [.agg #[.bool s31,.slice A31 n31 c31],.agg #[.bool s313,.slice A313 n313 c313]]) hw14 (g_ref5_Add hw14.size ((((((z31.ext (e34.trans e40)).updT hb45 u47).updT hb50 u52).ext (e86.trans (e226.trans e258))).updT hb277 u279).ext e302).zi (z31.le (lx_ L25 rfl)) z313.zi (z313.le (lx_ L281 rfl))) rfl (by kernel_rfl) fun xr317 v315 r317 e316 hw15=>?_
      obtain⟨s318,A318,n318,c318,rfl,z318⟩:=r317
      exact pi_done rfl e316 ⟨_,_,_,_,rfl,z318⟩
     · 
      intro v319 e320
      have hw14:=hw13.trans e320
      refine dk rfl rfl (dk rfl rfl (deps_cons rfl rfl fun x331 y332 h333 e334 f335=>?_))
      obtain⟨s336,A336,n336,c336,rfl,z336⟩:=h333
      have z336:=z336.ext f335
      refine deps_cons rfl rfl fun x337 y338 h339 e340 f341=>?_
      obtain⟨s342,A342,n342,c342,rfl,z342⟩:=h339
      have z342:=z342.ext f341
      refine deps_nil ?_
      have hb344:=(((hb51.ext (e86.trans (e226.trans e258))).updN u279 (by omega)).ext e320)
      refine so aggInt hb344 [.bool s342,.slice A342 n342 c342] hw14 ge42 rfl rfl rfl rfl fun v343 hb345 u346 hw15=>(wl_nil (eo_np (eo_then (cw_seq (cw_keep [(4,.pointer (some ⟨g12,0,none⟩)),(5,.pointer (some ⟨g18,0,none⟩)),(7,.pointer (some ⟨g32,0,none⟩)),(8,.pointer (some ⟨g38,0,none⟩))] ⟨rfl,rfl,rfl,rfl,trivial⟩ ?_)))))
      obtain⟨v348,hv,e349⟩:∃v,v=v343.drew∧Ext v343 v:=⟨_,rfl,(Ext.refl _).drew⟩
      have hw16:=hw15.trans e349
      have hb351:=((((((((hb15.ext (e20.trans (e27.trans (e34.trans e40)))).updN u47 (by omega)).updN u52 (by omega)).ext (e86.trans (e226.trans e258))).updN u279 (by omega)).ext e320).updN u346 (by omega)).ext e349)
      obtain⟨v350,hr355,hb352,u353,hs354⟩:=run_stored (P:=Tryz.prog) (us:= [.bool s275,.slice A275 n275 c275]) (off:=0) aggInt rfl hb351 (bq rfl) rfl [.bool s275,.slice A275 n275 c275] rfl
      have hw17:=u353.ext hw16 ge16
      have hb357:=(((((((((hb21.ext (e27.trans (e34.trans e40))).updN u47 (by omega)).updN u52 (by omega)).ext (e86.trans (e226.trans e258))).updN u279 (by omega)).ext e320).updN u346 (by omega)).ext e349).updN u353 (by omega))
      obtain⟨v356,hr361,hb358,u359,hs360⟩:=run_stored (P:=Tryz.prog) (us:= [.bool s342,.slice A342 n342 c342]) (off:=0) aggInt rfl hb357 (bq rfl) rfl [.bool s342,.slice A342 n342 c342] rfl
      have hw18:=u359.ext hw17 ge22
      refine cw_det mix (w:=v348) [.agg #[.bool s275,.slice A275 n275 c275],.agg #[.bool s342,.slice A342 n342 c342],undef,undef,I0] [v348,v350,v356] [2,3] [[],[],[0],[1],[]] [[],[],[0],[0,1,2],[0,1,2,3]] [(0,0),(1,0),(1,1),(2,0),(3,1),(4,2)] rfl hv ?_ ?_
      · 
       refine dobs_val _ rfl rfl rfl rfl rfl (rd_load rfl (load_agg aggInt (((hb278.ext e320).updN u346 (by omega)).ext e349) [.bool s275,.slice A275 n275 c275] rfl (bq rfl) rfl)) (dobs_val _ rfl rfl rfl rfl rfl (rd_load rfl (load_agg aggInt (hb345.ext e349) [.bool s342,.slice A342 n342 c342] rfl (bq rfl) rfl)) (dobs_val _ rfl rfl rfl rfl rfl (rd_load rfl (load_agg aggInt ((hb345.ext e349).updN u353 (by omega)) [.bool s342,.slice A342 n342 c342] rfl (bq rfl) rfl)) (dobs_sto _ rfl rfl rfl rfl rfl (rd_store rfl rfl hr355) (dobs_sto _ rfl rfl rfl rfl rfl (rd_store rfl rfl hr361) (dobs_val _ rfl rfl rfl rfl rfl (rd_assign rfl) ?_)))))
       exact dobs_nil
      clear hv
      refine eo_keep [(4,.pointer (some ⟨g12,0,none⟩)),(5,.pointer (some ⟨g18,0,none⟩)),(6,.int .i64 0)] ⟨rfl,rfl,rfl,trivial⟩ (eo_then (cw_ret (eo_ret [.agg #[.bool s275,.slice A275 n275 c275],.agg #[.bool s342,.slice A342 n342 c342],I0] rfl ⟨⟨_,rfl,load_agg aggInt (hb352.updN u359 (by omega)) [.bool s275,.slice A275 n275 c275] rfl (bq rfl) rfl⟩,⟨_,rfl,load_agg aggInt hb358 [.bool s342,.slice A342 n342 c342] rfl (bq rfl) rfl⟩,rfl,trivial⟩ ?_)))
      exact⟨_,rfl,⟨_,_,_,rfl,⟨_,_,_,_,rfl,(((((((z275.updT hb277 u279).ext e320).updT hb344 u346).ext e349).updT hb351 u353).updT hb357 u359)).cast (by unfold qE;rw [if_neg h0];exact hu.1)⟩,⟨_,_,_,_,rfl,(((((z342.updT hb344 u346).ext e349).updT hb351 u353).updT hb357 u359)).cast (by unfold rEu;rw [if_neg h0];exact hu.2)⟩,(show (.int .i64 0:Value)=_ by simp only [eX,eZ,if_neg h0])⟩,hw18⟩
set_option maxHeartbeats 4000000 in
theorem j_ref5_Mod {w:World}{sa:Bool}{Aa:Option Addr}{na ca:Nat}{x:Int}{sb:Bool}{Ab:Option Addr}{nb cb:Nat}{y:Int}{b:Nat}(hb:b≤w.heap.size) (hx:Zi w sa Aa na ca x) (la:na≤1048576) (hy:Zi w sb Ab nb cb y) (lb:nb≤1048576):
    Calls Tryz.prog 111 #[.agg #[.bool sa,.slice Aa na ca],.agg #[.bool sb,.slice Ab nb cb]] w (Gv w (T2 (ZR b (rEu x y)) (Is (.int .i64 (eZ y))))):=by
 refine Calls.mono (R:=Gv w (T2 (ZR w.heap.size (rEu x y)) (Is (.int .i64 (eZ y))))) ?_ (Gv.imp (T2.imp (ZR.imp hb) Is.imp))
 have Lx:ln x≤1048576:=Nat.le_trans hx.ln la
 have Ly:ln y≤1048576:=Nat.le_trans hy.ln lb
 refine sx_enter Tryz.func111 rfl (n:=18) rfl (bq rfl) (args:= [.agg #[.bool sa,.slice Aa na ca],.agg #[.bool sb,.slice Ab nb cb]]) (cw_keep [(0,.agg #[.bool sa,.slice Aa na ca]),(1,.agg #[.bool sb,.slice Ab nb cb])] ⟨rfl,rfl,trivial⟩ (sr (bx [.bool sa,.slice Aa na ca] (Ext.refl w) rfl rfl rfl fun g1 v2 hb4 ge5 e3 hw1=>(bxq [.bool sb,.slice Ab nb cb] hw1 hb4.lt rfl rfl rfl fun g6 v7 hb9 ge10 q11 e8 hw2=>(alq [F0,S0] hw2 hb9.lt (fun _=>by kernel_rfl) rfl fun g12 v13 hb15 ge16 q17 e14 hw3=>(mv 1 rfl (ne_ (sr (lo aggInt (hb4.ext (e8.trans e14)) [.bool sa,.slice Aa na ca] rfl rfl rfl (lo aggInt (hb9.ext e14) [.bool sb,.slice Ab nb cb] rfl rfl rfl ?_))))))))))
 have L18:ln (qE x y)≤1048578:=ln_qE Lx
 have L19:ln (rEu x y)≤1048576:=ln_rEu Ly
 refine cl (vs:= [.agg #[.bool sa,.slice Aa na ca],.agg #[.bool sb,.slice Ab nb cb]]) hw3 (j_ref5_Euclid hw3.size (hx.ext hw3) (lx_ la rfl) (hy.ext hw3) (lx_ lb rfl)) rfl (by kernel_rfl) fun xr22 v20 r22 e21 hw4=>?_
 obtain⟨_,_,_,rfl,⟨s24,A24,n24,c24,rfl,z24⟩,⟨s25,A25,n25,c25,rfl,z25⟩,rfl⟩:=r22
 refine mv 1 rfl (pu (v:= .agg #[.bool s24,.slice A24 n24 c24]) rfl (by kernel_rfl) (pu (v:= .agg #[.bool s25,.slice A25 n25 c25]) rfl (by kernel_rfl) (pu (v:= .int .i64 (eZ y)) rfl (by kernel_rfl) (alq [F0,S0] hw4 (hb15.ext e21).lt (fun _=>by kernel_rfl) rfl fun g26 v27 hb29 ge30 q31 e28 hw5=>(alq [F0,S0] hw5 hb29.lt (fun _=>by kernel_rfl) rfl fun g32 v33 hb35 ge36 q37 e34 hw6=>?_)))))
 have hb39:=(hb29.ext e34)
 refine so aggInt hb39 [.bool s24,.slice A24 n24 c24] hw6 ge30 rfl rfl rfl rfl fun v38 hb40 u41 hw7=>?_
 have hb44:=(hb35.updN u41 (by omega))
 refine so aggInt hb44 [.bool s25,.slice A25 n25 c25] hw7 ge36 rfl rfl rfl rfl fun v43 hb45 u46 hw8=>(mv 1 rfl (ne_ (sr (lo aggInt hb45 [.bool s25,.slice A25 n25 c25] rfl rfl rfl (mv 1 rfl ?_)))))
 have hb49:=(((hb15.ext (e21.trans (e28.trans e34))).updN u41 (by omega)).updN u46 (by omega))
 refine so aggInt hb49 [.bool s25,.slice A25 n25 c25] hw8 ge16 rfl rfl rfl rfl fun v48 hb50 u51 hw9=>(mv 1 rfl (ne_ (cw_ret (eo_ret [.agg #[.bool s25,.slice A25 n25 c25],.int .i64 (eZ y)] rfl ⟨⟨_,rfl,load_agg aggInt hb50 [.bool s25,.slice A25 n25 c25] rfl (bq rfl) rfl⟩,rfl,trivial⟩ ?_))))
 exact⟨_,rfl,⟨_,_,rfl,⟨_,_,_,_,rfl,((((z25.ext (e28.trans e34)).updT hb39 u41).updT hb44 u46).updT hb49 u51)⟩,rfl⟩,hw9⟩
set_option maxHeartbeats 4000000 in
theorem j_ref5_Exact {w:World}{sa:Bool}{Aa:Option Addr}{na ca:Nat}{x:Int}{sb:Bool}{Ab:Option Addr}{nb cb:Nat}{y:Int}{b:Nat}(hb:b≤w.heap.size) (hx:Zi w sa Aa na ca x) (la:na≤1048576) (hy:Zi w sb Ab nb cb y) (lb:nb≤1048576):
    Calls Tryz.prog 110 #[.agg #[.bool sa,.slice Aa na ca],.agg #[.bool sb,.slice Ab nb cb]] w (Gv w (T2 (ZR b (vX x y)) (Is (.int .i64 (eX x y))))):=by
 refine Calls.mono (R:=Gv w (T2 (ZR w.heap.size (vX x y)) (Is (.int .i64 (eX x y))))) ?_ (Gv.imp (T2.imp (ZR.imp hb) Is.imp))
 have Lx:ln x≤1048576:=Nat.le_trans hx.ln la
 have Ly:ln y≤1048576:=Nat.le_trans hy.ln lb
 refine sx_enter Tryz.func110 rfl (n:=25) rfl (bq rfl) (args:= [.agg #[.bool sa,.slice Aa na ca],.agg #[.bool sb,.slice Ab nb cb]]) (cw_keep [(0,.agg #[.bool sa,.slice Aa na ca]),(1,.agg #[.bool sb,.slice Ab nb cb])] ⟨rfl,rfl,trivial⟩ (sr (bx [.bool sa,.slice Aa na ca] (Ext.refl w) rfl rfl rfl fun g1 v2 hb4 ge5 e3 hw1=>(bxq [.bool sb,.slice Ab nb cb] hw1 hb4.lt rfl rfl rfl fun g6 v7 hb9 ge10 q11 e8 hw2=>(alq [F0,S0] hw2 hb9.lt (fun _=>by kernel_rfl) rfl fun g12 v13 hb15 ge16 q17 e14 hw3=>(mv 1 rfl (ne_ (sr (lo aggInt (hb4.ext (e8.trans e14)) [.bool sa,.slice Aa na ca] rfl rfl rfl (lo aggInt (hb9.ext e14) [.bool sb,.slice Ab nb cb] rfl rfl rfl ?_))))))))))
 have L18:ln (qT x y)≤1048576:=ln_qT Lx
 have L19:ln (rT x y)≤1048576:=ln_rT Lx
 refine cl (vs:= [.agg #[.bool sa,.slice Aa na ca],.agg #[.bool sb,.slice Ab nb cb]]) hw3 (j_ref5_Trunc hw3.size (hx.ext hw3) (lx_ la rfl) (hy.ext hw3) (lx_ lb rfl)) rfl (by kernel_rfl) fun xr22 v20 r22 e21 hw4=>?_
 obtain⟨_,_,_,rfl,⟨s24,A24,n24,c24,rfl,z24⟩,⟨s25,A25,n25,c25,rfl,z25⟩,rfl⟩:=r22
 refine mv 1 rfl (pu (v:= .agg #[.bool s24,.slice A24 n24 c24]) rfl (by kernel_rfl) (pu (v:= .agg #[.bool s25,.slice A25 n25 c25]) rfl (by kernel_rfl) (pu (v:= .int .i64 (eZ y)) rfl (by kernel_rfl) (alq [F0,S0] hw4 (hb15.ext e21).lt (fun _=>by kernel_rfl) rfl fun g26 v27 hb29 ge30 q31 e28 hw5=>(alq [F0,S0] hw5 hb29.lt (fun _=>by kernel_rfl) rfl fun g32 v33 hb35 ge36 q37 e34 hw6=>?_)))))
 have hb39:=(hb29.ext e34)
 refine so aggInt hb39 [.bool s24,.slice A24 n24 c24] hw6 ge30 rfl rfl rfl rfl fun v38 hb40 u41 hw7=>?_
 have hb44:=(hb35.updN u41 (by omega))
 refine so aggInt hb44 [.bool s25,.slice A25 n25 c25] hw7 ge36 rfl rfl rfl rfl fun v43 hb45 u46 hw8=>(mv 1 rfl (ne_ (cw_seq (cw_seq ?_))))
 by_cases h0:y=0
 · 
  have he:eZ y=4:=if_pos h0
  refine cw_region (mv 1 rfl (wl_cmp rfl rfl rfl true (ne_t (by omega)) (by decide) (ne_ (cw_true rfl (sr (pu (v:= .agg #[F0,S0]) rfl (by kernel_rfl) (mv 1 rfl ?_)))))))
  have hb49:=(((hb15.ext (e21.trans (e28.trans e34))).updN u41 (by omega)).updN u46 (by omega))
  refine so aggInt hb49 [F0,S0] hw8 ge16 rfl rfl rfl rfl fun v48 hb50 u51 hw9=>(mv 1 rfl (ne_ (cw_ret (eo_thenR (eo_ret [.agg #[F0,S0],.int .i64 (eZ y)] rfl ⟨⟨_,rfl,load_agg aggInt hb50 [F0,S0] rfl (bq rfl) rfl⟩,rfl,trivial⟩ ?_)))))
  exact⟨_,rfl,⟨_,_,rfl,⟨_,_,_,_,rfl,(((Zr.zero (w:=v43) (base:=w.heap.size)).updT hb49 u51)).cast (by simp only [vX,if_pos h0])⟩,(show (.int .i64 (eZ y):Value)=_ by simp only [eX,eZ,if_pos h0])⟩,hw9⟩
 · 
  have he:eZ y=0:=if_neg h0
  have hq:qT x y=x.tdiv y:=if_neg h0
  have hr:rT x y=x.tmod y:=if_neg h0
  by_cases hd:x.natAbs%y.natAbs=0
  · 
   refine cw_region (mv 1 rfl (wl_cmp rfl rfl rfl false (ne_f (by omega)) (by decide) (ne_ (cw_false rfl (cw_skip (eo_then (cw_seq (sr (lo aggInt hb45 [.bool s25,.slice A25 n25 c25] rfl rfl rfl (cl (vs:= [.agg #[.bool s25,.slice A25 n25 c25]]) hw8 (g_ref5_Sign (((z25.ext (e28.trans e34)).updT hb39 u41).updT hb44 u46).zi (z25.le (lx_ L19 rfl))) rfl (by kernel_rfl) fun xr55 v53 r55 e54 hw9=>?_))))))))))
   obtain rfl:=r55
   refine wl_cmp rfl rfl rfl false (scmp_ne_f (by rw [hr];exact tmod_zero_iff.2 hd)) (by decide) (ne_ (cw_false rfl (cw_skip (eo_then (sr (lo aggInt ((hb40.updN u46 (by omega)).ext e54) [.bool s24,.slice A24 n24 c24] rfl rfl rfl ?_))))))
   have hb57:=((((hb15.ext (e21.trans (e28.trans e34))).updN u41 (by omega)).updN u46 (by omega)).ext e54)
   refine so aggInt hb57 [.bool s24,.slice A24 n24 c24] hw9 ge16 rfl rfl rfl rfl fun v56 hb58 u59 hw10=>(mv 1 rfl (ne_ (cw_ret (eo_ret [.agg #[.bool s24,.slice A24 n24 c24],I0] rfl ⟨⟨_,rfl,load_agg aggInt hb58 [.bool s24,.slice A24 n24 c24] rfl (bq rfl) rfl⟩,rfl,trivial⟩ ?_))))
   exact⟨_,rfl,⟨_,_,rfl,⟨_,_,_,_,rfl,((((((z24.ext (e28.trans e34)).updT hb39 u41).updT hb44 u46).ext e54).updT hb57 u59)).cast (by simp only [vX,hq,if_neg h0,if_pos hd])⟩,(show (.int .i64 0:Value)=_ by simp only [eX,eZ,if_neg h0,if_pos hd])⟩,hw10⟩
  · 
   refine cw_region (mv 1 rfl (wl_cmp rfl rfl rfl false (ne_f (by omega)) (by decide) (ne_ (cw_false rfl (cw_skip (eo_then (cw_seq (sr (lo aggInt hb45 [.bool s25,.slice A25 n25 c25] rfl rfl rfl (cl (vs:= [.agg #[.bool s25,.slice A25 n25 c25]]) hw8 (g_ref5_Sign (((z25.ext (e28.trans e34)).updT hb39 u41).updT hb44 u46).zi (z25.le (lx_ L19 rfl))) rfl (by kernel_rfl) fun xr63 v61 r63 e62 hw9=>?_))))))))))
   obtain rfl:=r63
   refine wl_cmp rfl rfl rfl true (scmp_ne_t (by rw [hr];exact fun e=>hd (tmod_zero_iff.1 e))) (by decide) (ne_ (cw_true rfl (sr (pu (v:= .agg #[F0,S0]) rfl (by kernel_rfl) ?_))))
   have hb65:=((((hb15.ext (e21.trans (e28.trans e34))).updN u41 (by omega)).updN u46 (by omega)).ext e62)
   refine so aggInt hb65 [F0,S0] hw9 ge16 rfl rfl rfl rfl fun v64 hb66 u67 hw10=>(mv 1 rfl (ne_ (cw_ret (eo_thenR (eo_ret [.agg #[F0,S0],.int .i64 8] rfl ⟨⟨_,rfl,load_agg aggInt hb66 [F0,S0] rfl (bq rfl) rfl⟩,rfl,trivial⟩ ?_)))))
   exact⟨_,rfl,⟨_,_,rfl,⟨_,_,_,_,rfl,(((Zr.zero (w:=v61) (base:=w.heap.size)).updT hb65 u67)).cast (by simp only [vX,if_neg h0,if_neg hd])⟩,(show (.int .i64 8:Value)=_ by simp only [eX,eZ,if_neg h0,if_neg hd])⟩,hw10⟩
set_option maxHeartbeats 4000000 in
theorem j_ref5_Sym {w:World}{sa:Bool}{Aa:Option Addr}{na ca:Nat}{x:Int}{sb:Bool}{Ab:Option Addr}{nb cb:Nat}{y:Int}{b:Nat}(hb:b≤w.heap.size) (hx:Zi w sa Aa na ca x) (la:na≤1048576) (hy:Zi w sb Ab nb cb y) (lb:nb≤1048576):
    Calls Tryz.prog 112 #[.agg #[.bool sa,.slice Aa na ca],.agg #[.bool sb,.slice Ab nb cb]] w (Gv w (T2 (ZR b (vS x y)) (Is (.int .i64 (eZ y))))):=by
 refine Calls.mono (R:=Gv w (T2 (ZR w.heap.size (vS x y)) (Is (.int .i64 (eZ y))))) ?_ (Gv.imp (T2.imp (ZR.imp hb) Is.imp))
 have Lx:ln x≤1048576:=Nat.le_trans hx.ln la
 have Ly:ln y≤1048576:=Nat.le_trans hy.ln lb
 refine sx_enter Tryz.func112 rfl (n:=29) rfl (bq rfl) (args:= [.agg #[.bool sa,.slice Aa na ca],.agg #[.bool sb,.slice Ab nb cb]]) (cw_keep [(0,.agg #[.bool sa,.slice Aa na ca]),(1,.agg #[.bool sb,.slice Ab nb cb])] ⟨rfl,rfl,trivial⟩ (sr (bx [.bool sa,.slice Aa na ca] (Ext.refl w) rfl rfl rfl fun g1 v2 hb4 ge5 e3 hw1=>(bxq [.bool sb,.slice Ab nb cb] hw1 hb4.lt rfl rfl rfl fun g6 v7 hb9 ge10 q11 e8 hw2=>(alq [F0,S0] hw2 hb9.lt (fun _=>by kernel_rfl) rfl fun g12 v13 hb15 ge16 q17 e14 hw3=>(mv 1 rfl (ne_ (sr (lo aggInt (hb4.ext (e8.trans e14)) [.bool sa,.slice Aa na ca] rfl rfl rfl (lo aggInt (hb9.ext e14) [.bool sb,.slice Ab nb cb] rfl rfl rfl ?_))))))))))
 have L18:ln (rEu x y)≤1048576:=ln_rEu Ly
 refine cl (vs:= [.agg #[.bool sa,.slice Aa na ca],.agg #[.bool sb,.slice Ab nb cb]]) hw3 (j_ref5_Mod hw3.size (hx.ext hw3) (lx_ la rfl) (hy.ext hw3) (lx_ lb rfl)) rfl (by kernel_rfl) fun xr21 v19 r21 e20 hw4=>?_
 obtain⟨_,_,rfl,⟨s23,A23,n23,c23,rfl,z23⟩,rfl⟩:=r21
 refine mv 1 rfl (pu (v:= .agg #[.bool s23,.slice A23 n23 c23]) rfl (by kernel_rfl) (pu (v:= .int .i64 (eZ y)) rfl (by kernel_rfl) (alq [F0,S0] hw4 (hb15.ext e20).lt (fun _=>by kernel_rfl) rfl fun g24 v25 hb27 ge28 q29 e26 hw5=>(so aggInt hb27 [.bool s23,.slice A23 n23 c23] hw5 ge28 rfl rfl rfl rfl fun v30 hb32 u33 hw6=>(mv 1 rfl (ne_ (cw_seq (cw_seq ?_))))))))
 by_cases h0:y=0
 · 
  have he:eZ y=4:=if_pos h0
  refine cw_region (mv 1 rfl (wl_cmp rfl rfl rfl true (ne_t (by omega)) (by decide) (ne_ (cw_true rfl (sr (lo aggInt hb32 [.bool s23,.slice A23 n23 c23] rfl rfl rfl (mv 1 rfl ?_)))))))
  have hb36:=((hb15.ext (e20.trans e26)).updN u33 (by omega))
  refine so aggInt hb36 [.bool s23,.slice A23 n23 c23] hw6 ge16 rfl rfl rfl rfl fun v35 hb37 u38 hw7=>(mv 1 rfl (ne_ (cw_ret (eo_thenR (eo_ret [.agg #[.bool s23,.slice A23 n23 c23],.int .i64 (eZ y)] rfl ⟨⟨_,rfl,load_agg aggInt hb37 [.bool s23,.slice A23 n23 c23] rfl (bq rfl) rfl⟩,rfl,trivial⟩ ?_)))))
  exact⟨_,rfl,⟨_,_,rfl,⟨_,_,_,_,rfl,((((z23.ext e26).updT hb27 u33).updT hb36 u38)).cast (by simp only [rEu,vS,if_pos h0])⟩,rfl⟩,hw7⟩
 · 
  have he:eZ y=0:=if_neg h0
  have hr:rEu x y=x%y:=if_neg h0
  have hnn:=Int.emod_nonneg x h0
  by_cases hgt:x%y+x%y≤(y.natAbs:Int)
  · 
   refine cw_region (mv 1 rfl (wl_cmp rfl rfl rfl false (ne_f (by omega)) (by decide) (ne_ (cw_false rfl (cw_skip (eo_then (cw_seq (cw_seq ?_))))))))
   have L40:ln ((rEu x y)+(rEu x y))≤1048577:=Nat.le_trans (ln_add L18 L18) (by decide)
   refine cw_draw mix 6 [] [Is (.agg #[.bool s23,.slice A23 n23 c23]),Is (.agg #[.bool s23,.slice A23 n23 c23]),ZR w.heap.size ((rEu x y)+(rEu x y)),Is (.agg #[.bool sb,.slice Ab nb cb]),Is (.int .i64 (cmp3 (Int.natAbs ((rEu x y)+(rEu x y))) (Int.natAbs y))),Is (.bool false)] [[],[],[0,1],[],[2,3],[4]] [[],[],[0,1],[],[0,1,2,3],[0,1,2,3,4]] rfl
    (obs_cons rfl rfl (hob rfl rfl ?_) (obs_cons rfl rfl (hob rfl rfl ?_) (obs_cons rfl rfl (hob rfl rfl ?_) (obs_cons rfl rfl (hob rfl rfl ?_) (obs_cons rfl rfl (hob rfl rfl ?_) (obs_cons rfl rfl (hob rfl rfl ?_) obs_nil)))))) ?_
   · 
    exact fun _ e43=>deps_nil (lo aggInt (hb32.ext e43) [.bool s23,.slice A23 n23 c23] rfl rfl rfl (pi_done rfl (Ext.refl _) rfl))
   · 
    exact fun _ e45=>deps_nil (lo aggInt (hb32.ext e45) [.bool s23,.slice A23 n23 c23] rfl rfl rfl (pi_done rfl (Ext.refl _) rfl))
   · 
    intro v46 e47
    have hw7:=hw6.trans e47
    refine dk rfl rfl (dk rfl rfl (deps_nil ?_))
    have L58:ln ((rEu x y)+(rEu x y))≤1048577:=Nat.le_trans (ln_add L18 L18) (by decide)
    refine cl (vs:= [.agg #[.bool s23,.slice A23 n23 c23],.agg #[.bool s23,.slice A23 n23 c23]]) hw7 (g_ref5_Add hw7.size (((z23.ext e26).updT hb27 u33).ext e47).zi (z23.le (lx_ L18 rfl)) (((z23.ext e26).updT hb27 u33).ext e47).zi (z23.le (lx_ L18 rfl))) rfl (by kernel_rfl) fun xr61 v59 r61 e60 hw8=>?_
    obtain⟨s62,A62,n62,c62,rfl,z62⟩:=r61
    exact pi_done rfl e60 ⟨_,_,_,_,rfl,z62⟩
   · 
    exact fun _ e64=>deps_nil (lo aggInt (((hb9.ext (e14.trans (e20.trans e26))).updN u33 (by omega)).ext e64) [.bool sb,.slice Ab nb cb] rfl rfl rfl (pi_done rfl (Ext.refl _) rfl))
   · 
    intro v65 e66
    have hw7:=hw6.trans e66
    refine deps_cons rfl rfl fun x67 y68 h69 e70 f71=>?_
    obtain⟨s72,A72,n72,c72,rfl,z72⟩:=h69
    have z72:=z72.ext f71
    refine dk rfl rfl (deps_nil (cl (vs:= [.agg #[.bool s72,.slice A72 n72 c72],.agg #[.bool sb,.slice Ab nb cb]]) hw7 (g_ref5_CmpAbs z72.zi (z72.le (lx_ L40 rfl)) (hy.ext hw7) (lx_ lb rfl)) rfl (by kernel_rfl) fun xr80 v78 r80 e79 hw8=>?_))
    obtain rfl:=r80
    exact pi_done rfl e79 rfl
   · 
    exact fun _ _=>dk rfl rfl (deps_nil (wl_cmp rfl rfl rfl false (cmp3_gt5f (by omega)) (by decide) (pi_done rfl (Ext.refl _) rfl)))
   · 
    intro v88 e89
    have hw7:=hw6.trans e89
    refine dk rfl rfl (dk rfl rfl (deps_cons rfl rfl fun x100 y101 h102 e103 f104=>?_))
    obtain⟨s105,A105,n105,c105,rfl,z105⟩:=h102
    have z105:=z105.ext f104
    refine dk rfl rfl (dk rfl rfl (dk rfl rfl (deps_nil (wl_nil (eo_np (eo_then (cw_false rfl (cw_skip (eo_then (sr (lo aggInt (hb32.ext e89) [.bool s23,.slice A23 n23 c23] rfl rfl rfl ?_)))))))))))
    have hb122:=(((hb15.ext (e20.trans e26)).updN u33 (by omega)).ext e89)
    refine so aggInt hb122 [.bool s23,.slice A23 n23 c23] hw7 ge16 rfl rfl rfl rfl fun v121 hb123 u124 hw8=>(mv 1 rfl (ne_ (cw_ret (eo_ret [.agg #[.bool s23,.slice A23 n23 c23],I0] rfl ⟨⟨_,rfl,load_agg aggInt hb123 [.bool s23,.slice A23 n23 c23] rfl (bq rfl) rfl⟩,rfl,trivial⟩ ?_))))
    exact⟨_,rfl,⟨_,_,rfl,⟨_,_,_,_,rfl,(((((z23.ext e26).updT hb27 u33).ext e89).updT hb122 u124)).cast (by simp only [vS,hr,if_neg h0,if_pos hgt])⟩,(show (.int .i64 0:Value)=_ by simp only [eX,eZ,if_neg h0])⟩,hw8⟩
  · 
   refine cw_region (mv 1 rfl (wl_cmp rfl rfl rfl false (ne_f (by omega)) (by decide) (ne_ (cw_false rfl (cw_skip (eo_then (cw_seq (cw_seq ?_))))))))
   have L126:ln ((rEu x y)+(rEu x y))≤1048577:=Nat.le_trans (ln_add L18 L18) (by decide)
   refine cw_draw mix 6 [] [Is (.agg #[.bool s23,.slice A23 n23 c23]),Is (.agg #[.bool s23,.slice A23 n23 c23]),ZR w.heap.size ((rEu x y)+(rEu x y)),Is (.agg #[.bool sb,.slice Ab nb cb]),Is (.int .i64 (cmp3 (Int.natAbs ((rEu x y)+(rEu x y))) (Int.natAbs y))),Is (.bool true)] [[],[],[0,1],[],[2,3],[4]] [[],[],[0,1],[],[0,1,2,3],[0,1,2,3,4]] rfl
    (obs_cons rfl rfl (hob rfl rfl ?_) (obs_cons rfl rfl (hob rfl rfl ?_) (obs_cons rfl rfl (hob rfl rfl ?_) (obs_cons rfl rfl (hob rfl rfl ?_) (obs_cons rfl rfl (hob rfl rfl ?_) (obs_cons rfl rfl (hob rfl rfl ?_) obs_nil)))))) ?_
   · 
    exact fun _ e129=>deps_nil (lo aggInt (hb32.ext e129) [.bool s23,.slice A23 n23 c23] rfl rfl rfl (pi_done rfl (Ext.refl _) rfl))
   · 
    exact fun _ e131=>deps_nil (lo aggInt (hb32.ext e131) [.bool s23,.slice A23 n23 c23] rfl rfl rfl (pi_done rfl (Ext.refl _) rfl))
   · 
    intro v132 e133
    have hw7:=hw6.trans e133
    refine dk rfl rfl (dk rfl rfl (deps_nil ?_))
    have L144:ln ((rEu x y)+(rEu x y))≤1048577:=Nat.le_trans (ln_add L18 L18) (by decide)
    refine cl (vs:= [.agg #[.bool s23,.slice A23 n23 c23],.agg #[.bool s23,.slice A23 n23 c23]]) hw7 (g_ref5_Add hw7.size (((z23.ext e26).updT hb27 u33).ext e133).zi (z23.le (lx_ L18 rfl)) (((z23.ext e26).updT hb27 u33).ext e133).zi (z23.le (lx_ L18 rfl))) rfl (by kernel_rfl) fun xr147 v145 r147 e146 hw8=>?_
    obtain⟨s148,A148,n148,c148,rfl,z148⟩:=r147
    exact pi_done rfl e146 ⟨_,_,_,_,rfl,z148⟩
   · 
    exact fun _ e150=>deps_nil (lo aggInt (((hb9.ext (e14.trans (e20.trans e26))).updN u33 (by omega)).ext e150) [.bool sb,.slice Ab nb cb] rfl rfl rfl (pi_done rfl (Ext.refl _) rfl))
   · 
    intro v151 e152
    have hw7:=hw6.trans e152
    refine deps_cons rfl rfl fun x153 y154 h155 e156 f157=>?_
    obtain⟨s158,A158,n158,c158,rfl,z158⟩:=h155
    have z158:=z158.ext f157
    refine dk rfl rfl (deps_nil (cl (vs:= [.agg #[.bool s158,.slice A158 n158 c158],.agg #[.bool sb,.slice Ab nb cb]]) hw7 (g_ref5_CmpAbs z158.zi (z158.le (lx_ L126 rfl)) (hy.ext hw7) (lx_ lb rfl)) rfl (by kernel_rfl) fun xr166 v164 r166 e165 hw8=>?_))
    obtain rfl:=r166
    exact pi_done rfl e165 rfl
   · 
    exact fun _ _=>dk rfl rfl (deps_nil (wl_cmp rfl rfl rfl true (cmp3_gt5t (by omega)) (by decide) (pi_done rfl (Ext.refl _) rfl)))
   · 
    intro v174 e175
    have hw7:=hw6.trans e175
    refine dk rfl rfl (dk rfl rfl (deps_cons rfl rfl fun x186 y187 h188 e189 f190=>?_))
    obtain⟨s191,A191,n191,c191,rfl,z191⟩:=h188
    have z191:=z191.ext f190
    refine dk rfl rfl (dk rfl rfl (dk rfl rfl (deps_nil (wl_nil (eo_np (eo_then (cw_true rfl ?_)))))))
    have L207:ln ((Int.natAbs y:Int))≤1048576:=(by rw [ln_abs];exact Ly)
    have L209:ln ((rEu x y)-(Int.natAbs y:Int))≤1048577:=Nat.le_trans (ln_sub L18 L207) (by decide)
    refine cw_draw mix 4 [] [Is (.agg #[.bool s23,.slice A23 n23 c23]),Is (.agg #[.bool sb,.slice Ab nb cb]),ZR w.heap.size ((Int.natAbs y:Int)),ZR w.heap.size ((rEu x y)-(Int.natAbs y:Int))] [[],[],[1],[0,2]] [[],[],[1],[0,1,2],[0,1,2,3]] rfl
     (obs_cons rfl rfl (hob rfl rfl ?_) (obs_cons rfl rfl (hob rfl rfl ?_) (obs_cons rfl rfl (hob rfl rfl ?_) (obs_cons rfl rfl (hob rfl rfl ?_) obs_nil)))) ?_
    · 
     exact fun _ e212=>deps_nil (lo aggInt (hb32.ext (e175.trans e212)) [.bool s23,.slice A23 n23 c23] rfl rfl rfl (pi_done rfl (Ext.refl _) rfl))
    · 
     exact fun _ e214=>deps_nil (lo aggInt (((hb9.ext (e14.trans (e20.trans e26))).updN u33 (by omega)).ext (e175.trans e214)) [.bool sb,.slice Ab nb cb] rfl rfl rfl (pi_done rfl (Ext.refl _) rfl))
    · 
     intro v215 e216
     have hw8:=hw7.trans e216
     refine dk rfl rfl (deps_nil ?_)
     have L222:ln ((Int.natAbs y:Int))≤1048576:=(by rw [ln_abs];exact Ly)
     refine cl (vs:= [.agg #[.bool sb,.slice Ab nb cb]]) hw8 (g_ref5_Abs hw8.size (hy.ext hw8) (lx_ lb rfl)) rfl (by kernel_rfl) fun xr225 v223 r225 e224 hw9=>?_
     obtain⟨s226,A226,n226,c226,rfl,z226⟩:=r225
     exact pi_done rfl e224 ⟨_,_,_,_,rfl,z226⟩
    · 
     intro v227 e228
     have hw8:=hw7.trans e228
     refine dk rfl rfl (deps_cons rfl rfl fun x234 y235 h236 e237 f238=>?_)
     obtain⟨s239,A239,n239,c239,rfl,z239⟩:=h236
     have z239:=z239.ext f238
     refine deps_nil ?_
     have L240:ln ((rEu x y)-(Int.natAbs y:Int))≤1048577:=Nat.le_trans (ln_sub L18 L207) (by decide)
     refine cl (vs:= [.agg #[.bool s23,.slice A23 n23 c23],.agg #[.bool s239,.slice A239 n239 c239]]) hw8 (g_ref5_Sub hw8.size (((z23.ext e26).updT hb27 u33).ext (e175.trans e228)).zi (z23.le (lx_ L18 rfl)) z239.zi (z239.le (lx_ L207 rfl))) rfl (by kernel_rfl) fun xr243 v241 r243 e242 hw9=>?_
     obtain⟨s244,A244,n244,c244,rfl,z244⟩:=r243
     exact pi_done rfl e242 ⟨_,_,_,_,rfl,z244⟩
    · 
     intro v245 e246
     have hw8:=hw7.trans e246
     refine dk rfl rfl (dk rfl rfl (deps_cons rfl rfl fun x257 y258 h259 e260 f261=>?_))
     obtain⟨s262,A262,n262,c262,rfl,z262⟩:=h259
     have z262:=z262.ext f261
     refine deps_cons rfl rfl fun x263 y264 h265 e266 f267=>?_
     obtain⟨s268,A268,n268,c268,rfl,z268⟩:=h265
     have z268:=z268.ext f267
     refine deps_nil ?_
     have hb270:=(hb32.ext (e175.trans e246))
     refine so aggInt hb270 [.bool s268,.slice A268 n268 c268] hw8 ge28 rfl rfl rfl rfl fun v269 hb271 u272 hw9=>(wl_nil (eo_np (eo_then (sr (lo aggInt hb271 [.bool s268,.slice A268 n268 c268] rfl rfl rfl ?_)))))
     have hb275:=((((hb15.ext (e20.trans e26)).updN u33 (by omega)).ext (e175.trans e246)).updN u272 (by omega))
     refine so aggInt hb275 [.bool s268,.slice A268 n268 c268] hw9 ge16 rfl rfl rfl rfl fun v274 hb276 u277 hw10=>(mv 1 rfl (ne_ (cw_ret (eo_ret [.agg #[.bool s268,.slice A268 n268 c268],I0] rfl ⟨⟨_,rfl,load_agg aggInt hb276 [.bool s268,.slice A268 n268 c268] rfl (bq rfl) rfl⟩,rfl,trivial⟩ ?_))))
     exact⟨_,rfl,⟨_,_,rfl,⟨_,_,_,_,rfl,(((z268.updT hb270 u272).updT hb275 u277)).cast (by simp only [vS,hr,if_neg h0,if_neg hgt])⟩,(show (.int .i64 0:Value)=_ by simp only [eX,eZ,if_neg h0])⟩,hw10⟩
theorem j_zint_Euclid {w:World}{b:Nat}(hb:b≤w.heap.size){s:Bool}{A:Option Addr}{n cap:Nat}{x:Int}(hx:Zi w s A n cap x) (la:n≤1048576){t:Bool}{B:Option Addr}{m cap':Nat}{y:Int}(hy:Zi w t B m cap' y) (lb:m≤1048576):
  Calls Tryz.prog 124 #[.agg #[.bool s,.slice A n cap],.agg #[.bool t,.slice B m cap']] w (Gv w (T3 (ZR b (qE x y)) (ZR b (rEu x y)) (Is (.int .i64 (eZ y))))):=by
 by_cases h0:y=0
 ·simp only [qE,rEu,eZ,if_pos h0]
  exact g_zint_Euclid_badD hb hx (Nat.le_trans la (by decide)) hy (Nat.le_trans lb (by decide)) h0
 ·simp only [qE,rEu,eZ,if_neg h0]
  exact g_zint_Euclid hb hx (Nat.le_trans la (by decide)) hy (Nat.le_trans lb (by decide)) h0
set_option maxHeartbeats 4000000 in
theorem j_zint_Mod {w:World}{sa:Bool}{Aa:Option Addr}{na ca:Nat}{x:Int}{sb:Bool}{Ab:Option Addr}{nb cb:Nat}{y:Int}{b:Nat}(hb:b≤w.heap.size) (hx:Zi w sa Aa na ca x) (la:na≤1048576) (hy:Zi w sb Ab nb cb y) (lb:nb≤1048576):
    Calls Tryz.prog 126 #[.agg #[.bool sa,.slice Aa na ca],.agg #[.bool sb,.slice Ab nb cb]] w (Gv w (T2 (ZR b (rEu x y)) (Is (.int .i64 (eZ y))))):=by
 refine Calls.mono (R:=Gv w (T2 (ZR w.heap.size (rEu x y)) (Is (.int .i64 (eZ y))))) ?_ (Gv.imp (T2.imp (ZR.imp hb) Is.imp))
 have Lx:ln x≤1048576:=Nat.le_trans hx.ln la
 have Ly:ln y≤1048576:=Nat.le_trans hy.ln lb
 refine sx_enter Tryz.func126 rfl (n:=18) rfl (bq rfl) (args:= [.agg #[.bool sa,.slice Aa na ca],.agg #[.bool sb,.slice Ab nb cb]]) (cw_keep [(0,.agg #[.bool sa,.slice Aa na ca]),(1,.agg #[.bool sb,.slice Ab nb cb])] ⟨rfl,rfl,trivial⟩ (sr (bx [.bool sa,.slice Aa na ca] (Ext.refl w) rfl rfl rfl fun g1 v2 hb4 ge5 e3 hw1=>(bxq [.bool sb,.slice Ab nb cb] hw1 hb4.lt rfl rfl rfl fun g6 v7 hb9 ge10 q11 e8 hw2=>(alq [F0,S0] hw2 hb9.lt (fun _=>by kernel_rfl) rfl fun g12 v13 hb15 ge16 q17 e14 hw3=>(mv 1 rfl (ne_ (sr (lo aggInt (hb4.ext (e8.trans e14)) [.bool sa,.slice Aa na ca] rfl rfl rfl (lo aggInt (hb9.ext e14) [.bool sb,.slice Ab nb cb] rfl rfl rfl ?_))))))))))
 have L18:ln (qE x y)≤1048578:=ln_qE Lx
 have L19:ln (rEu x y)≤1048576:=ln_rEu Ly
 refine cl (vs:= [.agg #[.bool sa,.slice Aa na ca],.agg #[.bool sb,.slice Ab nb cb]]) hw3 (j_zint_Euclid hw3.size (hx.ext hw3) (lx_ la rfl) (hy.ext hw3) (lx_ lb rfl)) rfl (by kernel_rfl) fun xr22 v20 r22 e21 hw4=>?_
 obtain⟨_,_,_,rfl,⟨s24,A24,n24,c24,rfl,z24⟩,⟨s25,A25,n25,c25,rfl,z25⟩,rfl⟩:=r22
 refine mv 1 rfl (pu (v:= .agg #[.bool s24,.slice A24 n24 c24]) rfl (by kernel_rfl) (pu (v:= .agg #[.bool s25,.slice A25 n25 c25]) rfl (by kernel_rfl) (pu (v:= .int .i64 (eZ y)) rfl (by kernel_rfl) (alq [F0,S0] hw4 (hb15.ext e21).lt (fun _=>by kernel_rfl) rfl fun g26 v27 hb29 ge30 q31 e28 hw5=>(alq [F0,S0] hw5 hb29.lt (fun _=>by kernel_rfl) rfl fun g32 v33 hb35 ge36 q37 e34 hw6=>?_)))))
 have hb39:=(hb29.ext e34)
 refine so aggInt hb39 [.bool s24,.slice A24 n24 c24] hw6 ge30 rfl rfl rfl rfl fun v38 hb40 u41 hw7=>?_
 have hb44:=(hb35.updN u41 (by omega))
 refine so aggInt hb44 [.bool s25,.slice A25 n25 c25] hw7 ge36 rfl rfl rfl rfl fun v43 hb45 u46 hw8=>(mv 1 rfl (ne_ (sr (lo aggInt hb45 [.bool s25,.slice A25 n25 c25] rfl rfl rfl (mv 1 rfl ?_)))))
 have hb49:=(((hb15.ext (e21.trans (e28.trans e34))).updN u41 (by omega)).updN u46 (by omega))
 refine so aggInt hb49 [.bool s25,.slice A25 n25 c25] hw8 ge16 rfl rfl rfl rfl fun v48 hb50 u51 hw9=>(mv 1 rfl (ne_ (cw_ret (eo_ret [.agg #[.bool s25,.slice A25 n25 c25],.int .i64 (eZ y)] rfl ⟨⟨_,rfl,load_agg aggInt hb50 [.bool s25,.slice A25 n25 c25] rfl (bq rfl) rfl⟩,rfl,trivial⟩ ?_))))
 exact⟨_,rfl,⟨_,_,rfl,⟨_,_,_,_,rfl,((((z25.ext (e28.trans e34)).updT hb39 u41).updT hb44 u46).updT hb49 u51)⟩,rfl⟩,hw9⟩
set_option maxHeartbeats 4000000 in
theorem j_zint_Sym {w:World}{sa:Bool}{Aa:Option Addr}{na ca:Nat}{x:Int}{sb:Bool}{Ab:Option Addr}{nb cb:Nat}{y:Int}{b:Nat}(hb:b≤w.heap.size) (hx:Zi w sa Aa na ca x) (la:na≤1048576) (hy:Zi w sb Ab nb cb y) (lb:nb≤1048576):
    Calls Tryz.prog 127 #[.agg #[.bool sa,.slice Aa na ca],.agg #[.bool sb,.slice Ab nb cb]] w (Gv w (T2 (ZR b (vS x y)) (Is (.int .i64 (eZ y))))):=by
 refine Calls.mono (R:=Gv w (T2 (ZR w.heap.size (vS x y)) (Is (.int .i64 (eZ y))))) ?_ (Gv.imp (T2.imp (ZR.imp hb) Is.imp))
 have Lx:ln x≤1048576:=Nat.le_trans hx.ln la
 have Ly:ln y≤1048576:=Nat.le_trans hy.ln lb
 refine sx_enter Tryz.func127 rfl (n:=30) rfl (bq rfl) (args:= [.agg #[.bool sa,.slice Aa na ca],.agg #[.bool sb,.slice Ab nb cb]]) (cw_keep [(0,.agg #[.bool sa,.slice Aa na ca]),(1,.agg #[.bool sb,.slice Ab nb cb])] ⟨rfl,rfl,trivial⟩ (sr (bx [.bool sa,.slice Aa na ca] (Ext.refl w) rfl rfl rfl fun g1 v2 hb4 ge5 e3 hw1=>(bxq [.bool sb,.slice Ab nb cb] hw1 hb4.lt rfl rfl rfl fun g6 v7 hb9 ge10 q11 e8 hw2=>(alq [F0,S0] hw2 hb9.lt (fun _=>by kernel_rfl) rfl fun g12 v13 hb15 ge16 q17 e14 hw3=>(mv 1 rfl (ne_ (sr (lo aggInt (hb4.ext (e8.trans e14)) [.bool sa,.slice Aa na ca] rfl rfl rfl (lo aggInt (hb9.ext e14) [.bool sb,.slice Ab nb cb] rfl rfl rfl ?_))))))))))
 have L18:ln (rEu x y)≤1048576:=ln_rEu Ly
 refine cl (vs:= [.agg #[.bool sa,.slice Aa na ca],.agg #[.bool sb,.slice Ab nb cb]]) hw3 (j_zint_Mod hw3.size (hx.ext hw3) (lx_ la rfl) (hy.ext hw3) (lx_ lb rfl)) rfl (by kernel_rfl) fun xr21 v19 r21 e20 hw4=>?_
 obtain⟨_,_,rfl,⟨s23,A23,n23,c23,rfl,z23⟩,rfl⟩:=r21
 refine mv 1 rfl (pu (v:= .agg #[.bool s23,.slice A23 n23 c23]) rfl (by kernel_rfl) (pu (v:= .int .i64 (eZ y)) rfl (by kernel_rfl) (alq [F0,S0] hw4 (hb15.ext e20).lt (fun _=>by kernel_rfl) rfl fun g24 v25 hb27 ge28 q29 e26 hw5=>(so aggInt hb27 [.bool s23,.slice A23 n23 c23] hw5 ge28 rfl rfl rfl rfl fun v30 hb32 u33 hw6=>(mv 1 rfl (ne_ (cw_seq (cw_seq ?_))))))))
 by_cases h0:y=0
 · 
  have he:eZ y=4:=if_pos h0
  refine cw_draw mix 10 [] [Is (.int .i64 (eZ y)),Is (.bool false),Is (.bool false),Is (undef),Is (undef),Is (undef),Is (undef),Is (undef),Is (undef),Is (.bool false)] [[],[0],[1],[2],[2],[2,3,4],[2],[2,5,6],[2,7],[2,8]] [[],[0],[0,1],[0,1,2],[0,1,2],[0,1,2,3,4],[0,1,2],[0,1,2,3,4,5,6],[0,1,2,3,4,5,6,7],[0,1,2,3,4,5,6,7,8]] rfl
   (obs_cons rfl rfl (hob rfl rfl ?_) (obs_cons rfl rfl (hob rfl rfl ?_) (obs_cons rfl rfl (hob rfl rfl ?_) (obs_cons rfl rfl (hob rfl rfl ?_) (obs_cons rfl rfl (hob rfl rfl ?_) (obs_cons rfl rfl (hob rfl rfl ?_) (obs_cons rfl rfl (hob rfl rfl ?_) (obs_cons rfl rfl (hob rfl rfl ?_) (obs_cons rfl rfl (hob rfl rfl ?_) (obs_cons rfl rfl (hob rfl rfl ?_) obs_nil)))))))))) ?_
  · 
   exact fun _ _=>deps_nil (mv 1 rfl (pi_done rfl (Ext.refl _) rfl))
  · 
   exact fun _ _=>dk rfl rfl (deps_nil (wl_cmp rfl rfl rfl false (eq_f (by omega)) (by decide) (pi_done rfl (Ext.refl _) rfl)))
  · 
   exact fun _ _=>dk rfl rfl (deps_nil (mv 1 rfl (pi_done rfl (Ext.refl _) rfl)))
  · 
   exact fun _ _=>dk rfl rfl (deps_nil (mv 1 rfl (pi_done rfl (Ext.refl _) rfl)))
  · 
   exact fun _ _=>dk rfl rfl (deps_nil (mv 1 rfl (pi_done rfl (Ext.refl _) rfl)))
  · 
   exact fun _ _=>dk rfl rfl (dk rfl rfl (dk rfl rfl (deps_nil (mv 1 rfl (pi_done rfl (Ext.refl _) rfl)))))
  · 
   exact fun _ _=>dk rfl rfl (deps_nil (mv 1 rfl (pi_done rfl (Ext.refl _) rfl)))
  · 
   exact fun _ _=>dk rfl rfl (dk rfl rfl (dk rfl rfl (deps_nil (mv 1 rfl (pi_done rfl (Ext.refl _) rfl)))))
  · 
   exact fun _ _=>dk rfl rfl (dk rfl rfl (deps_nil (mv 1 rfl (pi_done rfl (Ext.refl _) rfl))))
  · 
   exact fun _ _=>dk rfl rfl (dk rfl rfl (deps_nil (pu (v:= .bool false) rfl (by kernel_rfl) (pi_done rfl (Ext.refl _) rfl))))
  · 
   intro v130 e131
   have hw7:=hw6.trans e131
   refine dk rfl rfl (dk rfl rfl (dk rfl rfl (dk rfl rfl (dk rfl rfl (dk rfl rfl (dk rfl rfl (dk rfl rfl (dk rfl rfl (dk rfl rfl (deps_nil (wl_nil (eo_np (eo_then ?_)))))))))))))
   refine cw_false rfl (cw_skip (eo_then (sr (lo aggInt (hb32.ext e131) [.bool s23,.slice A23 n23 c23] rfl rfl rfl (mv 1 rfl ?_)))))
   have hb183:=(((hb15.ext (e20.trans e26)).updN u33 (by omega)).ext e131)
   refine so aggInt hb183 [.bool s23,.slice A23 n23 c23] hw7 ge16 rfl rfl rfl rfl fun v182 hb184 u185 hw8=>(mv 1 rfl (ne_ (cw_ret (eo_ret [.agg #[.bool s23,.slice A23 n23 c23],.int .i64 (eZ y)] rfl ⟨⟨_,rfl,load_agg aggInt hb184 [.bool s23,.slice A23 n23 c23] rfl (bq rfl) rfl⟩,rfl,trivial⟩ ?_))))
   exact⟨_,rfl,⟨_,_,rfl,⟨_,_,_,_,rfl,(((((z23.ext e26).updT hb27 u33).ext e131).updT hb183 u185)).cast (by simp only [rEu,vS,if_pos h0])⟩,rfl⟩,hw8⟩
 · 
  have he:eZ y=0:=if_neg h0
  have hr:rEu x y=x%y:=if_neg h0
  have hnn:=Int.emod_nonneg x h0
  by_cases hgt:x%y+x%y≤(y.natAbs:Int)
  · 
   have L187:ln ((rEu x y)+(rEu x y))≤1048577:=Nat.le_trans (ln_add L18 L18) (by decide)
   refine cw_draw mix 10 [] [Is (.int .i64 (eZ y)),Is (.bool true),Is (.bool true),Is (.agg #[.bool s23,.slice A23 n23 c23]),Is (.agg #[.bool s23,.slice A23 n23 c23]),ZR w.heap.size ((rEu x y)+(rEu x y)),Is (.agg #[.bool sb,.slice Ab nb cb]),Is (.int .i64 (cmp3 (Int.natAbs ((rEu x y)+(rEu x y))) (Int.natAbs y))),Is (.bool false),Is (.bool false)] [[],[0],[1],[2],[2],[2,3,4],[2],[2,5,6],[2,7],[2,8]] [[],[0],[0,1],[0,1,2],[0,1,2],[0,1,2,3,4],[0,1,2],[0,1,2,3,4,5,6],[0,1,2,3,4,5,6,7],[0,1,2,3,4,5,6,7,8]] rfl
    (obs_cons rfl rfl (hob rfl rfl ?_) (obs_cons rfl rfl (hob rfl rfl ?_) (obs_cons rfl rfl (hob rfl rfl ?_) (obs_cons rfl rfl (hob rfl rfl ?_) (obs_cons rfl rfl (hob rfl rfl ?_) (obs_cons rfl rfl (hob rfl rfl ?_) (obs_cons rfl rfl (hob rfl rfl ?_) (obs_cons rfl rfl (hob rfl rfl ?_) (obs_cons rfl rfl (hob rfl rfl ?_) (obs_cons rfl rfl (hob rfl rfl ?_) obs_nil)))))))))) ?_
   · 
    exact fun _ _=>deps_nil (mv 1 rfl (pi_done rfl (Ext.refl _) rfl))
   · 
    exact fun _ _=>dk rfl rfl (deps_nil (wl_cmp rfl rfl rfl true (eq_t (by omega)) (by decide) (pi_done rfl (Ext.refl _) rfl)))
   · 
    exact fun _ _=>dk rfl rfl (deps_nil (mv 1 rfl (pi_done rfl (Ext.refl _) rfl)))
   · 
    exact fun _ e206=>dk rfl rfl (deps_nil (lo aggInt (hb32.ext e206) [.bool s23,.slice A23 n23 c23] rfl rfl rfl (pi_done rfl (Ext.refl _) rfl)))
   · 
    exact fun _ e213=>dk rfl rfl (deps_nil (lo aggInt (hb32.ext e213) [.bool s23,.slice A23 n23 c23] rfl rfl rfl (pi_done rfl (Ext.refl _) rfl)))
   · 
    intro v219 e220
    have hw7:=hw6.trans e220
    refine dk rfl rfl (dk rfl rfl (dk rfl rfl (deps_nil ?_)))
    have L236:ln ((rEu x y)+(rEu x y))≤1048577:=Nat.le_trans (ln_add L18 L18) (by decide)
    refine cl (vs:= [.agg #[.bool s23,.slice A23 n23 c23],.agg #[.bool s23,.slice A23 n23 c23]]) hw7 (g_zint_Add hw7.size (((z23.ext e26).updT hb27 u33).ext e220).zi (z23.le (lx_ L18 rfl)) (((z23.ext e26).updT hb27 u33).ext e220).zi (z23.le (lx_ L18 rfl))) rfl (by kernel_rfl) fun xr239 v237 r239 e238 hw8=>?_
    obtain⟨s240,A240,n240,c240,rfl,z240⟩:=r239
    exact pi_done rfl e238 ⟨_,_,_,_,rfl,z240⟩
   · 
    exact fun _ e242=>dk rfl rfl (deps_nil (lo aggInt (((hb9.ext (e14.trans (e20.trans e26))).updN u33 (by omega)).ext e242) [.bool sb,.slice Ab nb cb] rfl rfl rfl (pi_done rfl (Ext.refl _) rfl)))
   · 
    intro v248 e249
    have hw7:=hw6.trans e249
    refine dk rfl rfl (deps_cons rfl rfl fun x255 y256 h257 e258 f259=>?_)
    obtain⟨s260,A260,n260,c260,rfl,z260⟩:=h257
    have z260:=z260.ext f259
    refine dk rfl rfl (deps_nil (cl (vs:= [.agg #[.bool s260,.slice A260 n260 c260],.agg #[.bool sb,.slice Ab nb cb]]) hw7 (g_zint_CmpAbs z260.zi (z260.le (lx_ L187 rfl)) (hy.ext hw7) (lx_ lb rfl)) rfl (by kernel_rfl) fun xr268 v266 r268 e267 hw8=>?_))
    obtain rfl:=r268
    exact pi_done rfl e267 rfl
   · 
    exact fun _ _=>dk rfl rfl (dk rfl rfl (deps_nil (wl_cmp rfl rfl rfl false (cmp3_gt5f (by omega)) (by decide) (pi_done rfl (Ext.refl _) rfl))))
   · 
    exact fun _ _=>dk rfl rfl (dk rfl rfl (deps_nil (pu (v:= .bool false) rfl (by kernel_rfl) (pi_done rfl (Ext.refl _) rfl))))
   · 
    intro v293 e294
    have hw7:=hw6.trans e294
    refine dk rfl rfl (dk rfl rfl (dk rfl rfl (dk rfl rfl (dk rfl rfl (deps_cons rfl rfl fun x320 y321 h322 e323 f324=>?_)))))
    obtain⟨s325,A325,n325,c325,rfl,z325⟩:=h322
    have z325:=z325.ext f324
    refine dk rfl rfl (dk rfl rfl (dk rfl rfl (dk rfl rfl (deps_nil (wl_nil (eo_np (eo_then (cw_false rfl (cw_skip (eo_then (sr (lo aggInt (hb32.ext e294) [.bool s23,.slice A23 n23 c23] rfl rfl rfl (mv 1 rfl ?_)))))))))))))
    have hb347:=(((hb15.ext (e20.trans e26)).updN u33 (by omega)).ext e294)
    refine so aggInt hb347 [.bool s23,.slice A23 n23 c23] hw7 ge16 rfl rfl rfl rfl fun v346 hb348 u349 hw8=>(mv 1 rfl (ne_ (cw_ret (eo_ret [.agg #[.bool s23,.slice A23 n23 c23],.int .i64 (eZ y)] rfl ⟨⟨_,rfl,load_agg aggInt hb348 [.bool s23,.slice A23 n23 c23] rfl (bq rfl) rfl⟩,rfl,trivial⟩ ?_))))
    exact⟨_,rfl,⟨_,_,rfl,⟨_,_,_,_,rfl,(((((z23.ext e26).updT hb27 u33).ext e294).updT hb347 u349)).cast (by simp only [vS,hr,if_neg h0,if_pos hgt])⟩,rfl⟩,hw8⟩
  · 
   have L351:ln ((rEu x y)+(rEu x y))≤1048577:=Nat.le_trans (ln_add L18 L18) (by decide)
   refine cw_draw mix 10 [] [Is (.int .i64 (eZ y)),Is (.bool true),Is (.bool true),Is (.agg #[.bool s23,.slice A23 n23 c23]),Is (.agg #[.bool s23,.slice A23 n23 c23]),ZR w.heap.size ((rEu x y)+(rEu x y)),Is (.agg #[.bool sb,.slice Ab nb cb]),Is (.int .i64 (cmp3 (Int.natAbs ((rEu x y)+(rEu x y))) (Int.natAbs y))),Is (.bool true),Is (.bool true)] [[],[0],[1],[2],[2],[2,3,4],[2],[2,5,6],[2,7],[2,8]] [[],[0],[0,1],[0,1,2],[0,1,2],[0,1,2,3,4],[0,1,2],[0,1,2,3,4,5,6],[0,1,2,3,4,5,6,7],[0,1,2,3,4,5,6,7,8]] rfl
    (obs_cons rfl rfl (hob rfl rfl ?_) (obs_cons rfl rfl (hob rfl rfl ?_) (obs_cons rfl rfl (hob rfl rfl ?_) (obs_cons rfl rfl (hob rfl rfl ?_) (obs_cons rfl rfl (hob rfl rfl ?_) (obs_cons rfl rfl (hob rfl rfl ?_) (obs_cons rfl rfl (hob rfl rfl ?_) (obs_cons rfl rfl (hob rfl rfl ?_) (obs_cons rfl rfl (hob rfl rfl ?_) (obs_cons rfl rfl (hob rfl rfl ?_) obs_nil)))))))))) ?_
   · 
    exact fun _ _=>deps_nil (mv 1 rfl (pi_done rfl (Ext.refl _) rfl))
   · 
    exact fun _ _=>dk rfl rfl (deps_nil (wl_cmp rfl rfl rfl true (eq_t (by omega)) (by decide) (pi_done rfl (Ext.refl _) rfl)))
   · 
    exact fun _ _=>dk rfl rfl (deps_nil (mv 1 rfl (pi_done rfl (Ext.refl _) rfl)))
   · 
    exact fun _ e370=>dk rfl rfl (deps_nil (lo aggInt (hb32.ext e370) [.bool s23,.slice A23 n23 c23] rfl rfl rfl (pi_done rfl (Ext.refl _) rfl)))
   · 
    exact fun _ e377=>dk rfl rfl (deps_nil (lo aggInt (hb32.ext e377) [.bool s23,.slice A23 n23 c23] rfl rfl rfl (pi_done rfl (Ext.refl _) rfl)))
   · 
    intro v383 e384
    have hw7:=hw6.trans e384
    refine dk rfl rfl (dk rfl rfl (dk rfl rfl (deps_nil ?_)))
    have L400:ln ((rEu x y)+(rEu x y))≤1048577:=Nat.le_trans (ln_add L18 L18) (by decide)
    refine cl (vs:= [.agg #[.bool s23,.slice A23 n23 c23],.agg #[.bool s23,.slice A23 n23 c23]]) hw7 (g_zint_Add hw7.size (((z23.ext e26).updT hb27 u33).ext e384).zi (z23.le (lx_ L18 rfl)) (((z23.ext e26).updT hb27 u33).ext e384).zi (z23.le (lx_ L18 rfl))) rfl (by kernel_rfl) fun xr403 v401 r403 e402 hw8=>?_
    obtain⟨s404,A404,n404,c404,rfl,z404⟩:=r403
    exact pi_done rfl e402 ⟨_,_,_,_,rfl,z404⟩
   · 
    exact fun _ e406=>dk rfl rfl (deps_nil (lo aggInt (((hb9.ext (e14.trans (e20.trans e26))).updN u33 (by omega)).ext e406) [.bool sb,.slice Ab nb cb] rfl rfl rfl (pi_done rfl (Ext.refl _) rfl)))
   · 
    intro v412 e413
    have hw7:=hw6.trans e413
    refine dk rfl rfl (deps_cons rfl rfl fun x419 y420 h421 e422 f423=>?_)
    obtain⟨s424,A424,n424,c424,rfl,z424⟩:=h421
    have z424:=z424.ext f423
    refine dk rfl rfl (deps_nil (cl (vs:= [.agg #[.bool s424,.slice A424 n424 c424],.agg #[.bool sb,.slice Ab nb cb]]) hw7 (g_zint_CmpAbs z424.zi (z424.le (lx_ L351 rfl)) (hy.ext hw7) (lx_ lb rfl)) rfl (by kernel_rfl) fun xr432 v430 r432 e431 hw8=>?_))
    obtain rfl:=r432
    exact pi_done rfl e431 rfl
   · 
    exact fun _ _=>dk rfl rfl (dk rfl rfl (deps_nil (wl_cmp rfl rfl rfl true (cmp3_gt5t (by omega)) (by decide) (pi_done rfl (Ext.refl _) rfl))))
   · 
    exact fun _ _=>dk rfl rfl (dk rfl rfl (deps_nil (pu (v:= .bool true) rfl (by kernel_rfl) (pi_done rfl (Ext.refl _) rfl))))
   · 
    intro v457 e458
    have hw7:=hw6.trans e458
    refine dk rfl rfl (dk rfl rfl (dk rfl rfl (dk rfl rfl (dk rfl rfl (deps_cons rfl rfl fun x484 y485 h486 e487 f488=>?_)))))
    obtain⟨s489,A489,n489,c489,rfl,z489⟩:=h486
    have z489:=z489.ext f488
    refine dk rfl rfl (dk rfl rfl (dk rfl rfl (dk rfl rfl (deps_nil (wl_nil (eo_np (eo_then (cw_true rfl ?_))))))))
    have L510:ln ((Int.natAbs y:Int))≤1048576:=(by rw [ln_abs];exact Ly)
    have L512:ln ((rEu x y)-(Int.natAbs y:Int))≤1048577:=Nat.le_trans (ln_sub L18 L510) (by decide)
    refine cw_draw mix 4 [] [Is (.agg #[.bool s23,.slice A23 n23 c23]),Is (.agg #[.bool sb,.slice Ab nb cb]),ZR w.heap.size ((Int.natAbs y:Int)),ZR w.heap.size ((rEu x y)-(Int.natAbs y:Int))] [[],[],[1],[0,2]] [[],[],[1],[0,1,2],[0,1,2,3]] rfl
     (obs_cons rfl rfl (hob rfl rfl ?_) (obs_cons rfl rfl (hob rfl rfl ?_) (obs_cons rfl rfl (hob rfl rfl ?_) (obs_cons rfl rfl (hob rfl rfl ?_) obs_nil)))) ?_
    · 
     exact fun _ e515=>deps_nil (lo aggInt (hb32.ext (e458.trans e515)) [.bool s23,.slice A23 n23 c23] rfl rfl rfl (pi_done rfl (Ext.refl _) rfl))
    · 
     exact fun _ e517=>deps_nil (lo aggInt (((hb9.ext (e14.trans (e20.trans e26))).updN u33 (by omega)).ext (e458.trans e517)) [.bool sb,.slice Ab nb cb] rfl rfl rfl (pi_done rfl (Ext.refl _) rfl))
    · 
     intro v518 e519
     have hw8:=hw7.trans e519
     refine dk rfl rfl (deps_nil ?_)
     have L525:ln ((Int.natAbs y:Int))≤1048576:=(by rw [ln_abs];exact Ly)
     refine cl (vs:= [.agg #[.bool sb,.slice Ab nb cb]]) hw8 (g_zint_Abs hw8.size (hy.ext hw8) (lx_ lb rfl)) rfl (by kernel_rfl) fun xr528 v526 r528 e527 hw9=>?_
     obtain⟨s529,A529,n529,c529,rfl,z529⟩:=r528
     exact pi_done rfl e527 ⟨_,_,_,_,rfl,z529⟩
    · 
     intro v530 e531
     have hw8:=hw7.trans e531
     refine dk rfl rfl (deps_cons rfl rfl fun x537 y538 h539 e540 f541=>?_)
     obtain⟨s542,A542,n542,c542,rfl,z542⟩:=h539
     have z542:=z542.ext f541
     refine deps_nil ?_
     have L543:ln ((rEu x y)-(Int.natAbs y:Int))≤1048577:=Nat.le_trans (ln_sub L18 L510) (by decide)
     refine cl (vs:= [.agg #[.bool s23,.slice A23 n23 c23],.agg #[.bool s542,.slice A542 n542 c542]]) hw8 (g_zint_Sub hw8.size (((z23.ext e26).updT hb27 u33).ext (e458.trans e531)).zi (z23.le (lx_ L18 rfl)) z542.zi (z542.le (lx_ L510 rfl))) rfl (by kernel_rfl) fun xr546 v544 r546 e545 hw9=>?_
     obtain⟨s547,A547,n547,c547,rfl,z547⟩:=r546
     exact pi_done rfl e545 ⟨_,_,_,_,rfl,z547⟩
    · 
     intro v548 e549
     have hw8:=hw7.trans e549
     refine dk rfl rfl (dk rfl rfl (deps_cons rfl rfl fun x560 y561 h562 e563 f564=>?_))
     obtain⟨s565,A565,n565,c565,rfl,z565⟩:=h562
     have z565:=z565.ext f564
     refine deps_cons rfl rfl fun x566 y567 h568 e569 f570=>?_
     obtain⟨s571,A571,n571,c571,rfl,z571⟩:=h568
     have z571:=z571.ext f570
     refine deps_nil ?_
     have hb573:=(hb32.ext (e458.trans e549))
     refine so aggInt hb573 [.bool s571,.slice A571 n571 c571] hw8 ge28 rfl rfl rfl rfl fun v572 hb574 u575 hw9=>(wl_nil (eo_np (eo_then (sr (lo aggInt hb574 [.bool s571,.slice A571 n571 c571] rfl rfl rfl (mv 1 rfl ?_))))))
     have hb578:=((((hb15.ext (e20.trans e26)).updN u33 (by omega)).ext (e458.trans e549)).updN u575 (by omega))
     refine so aggInt hb578 [.bool s571,.slice A571 n571 c571] hw9 ge16 rfl rfl rfl rfl fun v577 hb579 u580 hw10=>(mv 1 rfl (ne_ (cw_ret (eo_ret [.agg #[.bool s571,.slice A571 n571 c571],.int .i64 (eZ y)] rfl ⟨⟨_,rfl,load_agg aggInt hb579 [.bool s571,.slice A571 n571 c571] rfl (bq rfl) rfl⟩,rfl,trivial⟩ ?_))))
     exact⟨_,rfl,⟨_,_,rfl,⟨_,_,_,_,rfl,(((z571.updT hb573 u575).updT hb578 u580)).cast (by simp only [vS,hr,if_neg h0,if_neg hgt])⟩,rfl⟩,hw10⟩
end Go.Proofs.YthggegdkpalgbaaGreatDoor

namespace Go.Proofs.YthggegdkpalgbaaGreatDoor
open Go.RowKit
open Classical in
noncomputable def rV (bs:List Nat):Int:=if Good 10 (ztl bs) then zval bs else 0
open Classical in
noncomputable def rE (bs:List Nat):Int:=if Good 10 (ztl bs) then 0 else 7
theorem take1_eq5 {bs:List Nat}{c:Nat}(h:bs.take 1= [c]):0<bs.length∧bs.getD 0 0=c:=by
 cases bs with
 | nil=>cases h
 | cons x r=>simp at h;exact⟨by simp,h⟩
theorem take3_eq5 {bs:List Nat}{a b c:Nat}(h:bs.take 3= [a,b,c]):3≤bs.length∧bs.getD 0 0=a∧bs.getD 1 0=b∧bs.getD 2 0=c:=by
 match bs,h with
 | [],h=>cases h
 | [_],h=>cases h
 | [_,_],h=>cases h
 | x::y::z::r,h=>simp at h;exact⟨by simp,h.1,h.2.1,h.2.2⟩
theorem take1_of5 {bs:List Nat}{c:Nat}(h:bs.length>0) (e:bs.getD 0 0=c):bs.take 1= [c]:=by
 cases bs with
 | nil=>simp at h
 | cons x r=>simp at e;simp [e]
theorem take3_of5 {bs:List Nat}{a b c:Nat}(h:bs.length>2) (e0:bs.getD 0 0=a) (e1:bs.getD 1 0=b) (e2:bs.getD 2 0=c):bs.take 3= [a,b,c]:=by
 match bs,h with
 | [],h=>simp at h
 | [_],h=>simp at h
 | [_,_],h=>simp at h
 | x::y::z::r,h=>simp at e0 e1 e2;simp [e0,e1,e2]
set_option maxHeartbeats 4000000 in
theorem g_ref5_ReadI {w:World}{bs:List Nat}(hbs:∀b,b∈bs→b<256) (hlen:bs.length≤1048576):
    Calls Tryz.prog 114 #[.string (strB bs)] w (Gv w (T2 (ZR w.heap.size (rV bs)) (Is (.int .i64 (rE bs))))):=by
 refine sx_enter Tryz.func114 rfl (n:=55) rfl (bq rfl) (args:= [.string (strB bs)]) (cw_keep [(0,.string (strB bs))] ⟨rfl,trivial⟩ (sr (al [F0,S0] (Ext.refl w) (fun _=>by kernel_rfl) rfl fun g1 v2 hb4 ge5 e3 hw1=>(mv 1 rfl (ne_ (sr (mv 1 rfl (ne_ (sr (mv 1 rfl (ne_ (cw_seq (cw_seq ?_)))))))))))))
 by_cases hf1:bs.take 1= [43]
 · 
  have hzl:ztl bs=bs.drop 1:=by unfold ztl;rw [if_pos hf1]
  have hzn:zng bs=false:=by unfold zng;rw [if_pos hf1]
  obtain⟨h0l,h0v⟩:=take1_eq5 hf1
  refine cw_region (mv 1 rfl (wl_pureE rfl rfl (v:= .int .i64 (((strB bs).size:Nat):Int)) (v':= .int .i64 ((bs.length:Nat):Int)) (by decide) (by kernel_rfl) (by rw [strB_size]) (wl_cmp rfl rfl rfl true (cb_gt_t (a:=bs.length) (b:=0) rfl rfl (by omega)) (by decide) (mv 2 rfl (wl_strix (bs:=bs) (i:=0) rfl rfl rfl Tryz.underlying9 hbs (by omega) (by decide) (wl_cmp rfl rfl rfl true (cb_eq_t (a:=bs.getD 0 0) (b:=43) rfl rfl (by omega)) (by decide) (mv 4 rfl (pu (v:= .bool true) rfl (by kernel_rfl) (pu (v:= .bool true) rfl (by kernel_rfl) (ne_ (cw_true rfl (sr (mv 1 rfl ?_)))))))))))))
  refine wl_strix (bs:=bs) (i:=0) rfl rfl rfl Tryz.underlying9 hbs (by omega) (by decide) (wl_cmp rfl rfl rfl false (cb_eq_f (a:=bs.getD 0 0) (b:=45) rfl rfl (by omega)) (by decide) (mv 1 rfl (ne_ (cw_region (mv 1 rfl (ne_ (cw_seq ?_)))))))
  have hbt:∀b,b∈bs.drop 1→b<256:=fun b hb=>hbs b (List.mem_of_mem_drop hb)
  have hlt:(bs.drop 1).length≤17179869184:=by rw [List.length_drop];omega
  by_cases hg:Good 10 (bs.drop 1)
  · 
   have hnz:(wd (vald 10 ((bs.drop 1).map dv))).length≤1048576:=Nat.le_trans (len_wd_dv (base:=10) (by decide) (by decide) hg.2) (by rw [List.length_drop];omega)
   refine cw_region (mv 2 rfl (wl_strlo (bs:=bs) (i:=1) rfl rfl rfl Tryz.underlying9 (by omega) (by decide) (cl (vs:= [.string (strB (bs.drop 1))]) hw1 ((ref4_ReadDec_good hbt hlt hg).mono (Gv.imp (T2.imp (WR.imp hw1.size) Is.imp))) rfl (by kernel_rfl) fun xr8 v6 r8 e7 hw2=>?_)))
   obtain⟨_,_,rfl,⟨A10,n10,c10,rfl,j10,o10⟩,rfl⟩:=r8
   refine mv 1 rfl (pu (v:= .slice A10 n10 c10) rfl (by kernel_rfl) (pu (v:= .int .i64 0) rfl (by kernel_rfl) (mv 2 rfl (ne_ (cw_seq (sr (mv 1 rfl (wl_cmp rfl rfl rfl false (by decide) (by decide) (ne_ (cw_false rfl (cw_skip (eo_then (cw_seq ?_)))))))))))))
   refine cw_region (mv 2 rfl ?_)
   have L11:ln (sg false (vald 10 ((bs.drop 1).map dv)))≤1048576:=by rw [ln_sg];exact hnz
   refine cl (vs:= [F0,.slice A10 n10 c10]) hw2 (g_ref5_made hw2.size o10.wi (by rw [j10];exact Nat.le_trans hnz (by decide))) rfl (by kernel_rfl) fun xr14 v12 r14 e13 hw3=>?_
   obtain⟨s15,A15,n15,c15,rfl,z15⟩:=r14
   have hb17:=(hb4.ext (e7.trans e13))
   refine so aggInt hb17 [.bool s15,.slice A15 n15 c15] hw3 ge5 rfl rfl rfl rfl fun v16 hb18 u19 hw4=>(mv 1 rfl (ne_ (cw_ret (eo_ret [.agg #[.bool s15,.slice A15 n15 c15],I0] rfl ⟨⟨_,rfl,load_agg aggInt hb18 [.bool s15,.slice A15 n15 c15] rfl (bq rfl) rfl⟩,rfl,trivial⟩ ?_))))
   have hV:rV bs=sg false (vald 10 ((bs.drop 1).map dv)):=by unfold rV;rw [hzl,if_pos hg,zval,hzn,hzl,sg_false];rfl
   have hE:rE bs=0:=by unfold rE;rw [hzl,if_pos hg]
   exact⟨_,rfl,⟨_,_,rfl,⟨_,_,_,_,rfl,((z15.updT hb17 u19)).cast hV.symm⟩,(show Value.int .i64 (0)=_ by rw [hE])⟩,hw4⟩
  · 
   refine cw_region (mv 2 rfl (wl_strlo (bs:=bs) (i:=1) rfl rfl rfl Tryz.underlying9 (by omega) (by decide) (cl (vs:= [.string (strB (bs.drop 1))]) hw1 (ref4_ReadDec_bad hbt hlt hg) rfl (by kernel_rfl) fun xr23 v21 r23 e22 hw2=>?_)))
   obtain⟨_,_,rfl,rfl,rfl⟩:=r23
   refine mv 1 rfl (pu (v:= .slice none 0 0) rfl (by kernel_rfl) (pu (v:= .int .i64 7) rfl (by kernel_rfl) (mv 2 rfl (ne_ (cw_seq (sr (mv 1 rfl (wl_cmp rfl rfl rfl true (by decide) (by decide) (ne_ (cw_true rfl (sr (pu (v:= .agg #[F0,S0]) rfl (by kernel_rfl) ?_))))))))))))
   have hb26:=(hb4.ext e22)
   refine so aggInt hb26 [F0,S0] hw2 ge5 rfl rfl rfl rfl fun v25 hb27 u28 hw3=>(mv 1 rfl (ne_ (cw_ret (eo_thenR (eo_ret [.agg #[F0,S0],.int .i64 7] rfl ⟨⟨_,rfl,load_agg aggInt hb27 [F0,S0] rfl (bq rfl) rfl⟩,rfl,trivial⟩ ?_)))))
   have hV:rV bs=0:=by unfold rV;rw [hzl,if_neg hg]
   have hE:rE bs=7:=by unfold rE;rw [hzl,if_neg hg]
   exact⟨_,rfl,⟨_,_,rfl,⟨_,_,_,_,rfl,(((Zr.zero (w:=v21) (base:=w.heap.size)).updT hb26 u28)).cast hV.symm⟩,(show Value.int .i64 (7)=_ by rw [hE])⟩,hw3⟩
 · 
  by_cases hf2:bs.take 1= [45]
  · 
   have hzl:ztl bs=bs.drop 1:=by unfold ztl;rw [if_neg hf1,if_pos hf2]
   have hzn:zng bs=true:=by unfold zng;rw [if_neg hf1,if_pos hf2]
   obtain⟨h0l,h0v⟩:=take1_eq5 hf2
   refine cw_region (mv 1 rfl (wl_pureE rfl rfl (v:= .int .i64 (((strB bs).size:Nat):Int)) (v':= .int .i64 ((bs.length:Nat):Int)) (by decide) (by kernel_rfl) (by rw [strB_size]) (wl_cmp rfl rfl rfl true (cb_gt_t (a:=bs.length) (b:=0) rfl rfl (by omega)) (by decide) (mv 2 rfl (wl_strix (bs:=bs) (i:=0) rfl rfl rfl Tryz.underlying9 hbs (by omega) (by decide) (wl_cmp rfl rfl rfl false (cb_eq_f (a:=bs.getD 0 0) (b:=43) rfl rfl (by omega)) (by decide) (mv 2 rfl (wl_strix (bs:=bs) (i:=0) rfl rfl rfl Tryz.underlying9 hbs (by omega) (by decide) (wl_cmp rfl rfl rfl true (cb_eq_t (a:=bs.getD 0 0) (b:=45) rfl rfl (by omega)) (by decide) (pu (v:= .bool true) rfl (by kernel_rfl) (pu (v:= .bool true) rfl (by kernel_rfl) (ne_ (cw_true rfl ?_)))))))))))))
   refine sr (mv 1 rfl (wl_strix (bs:=bs) (i:=0) rfl rfl rfl Tryz.underlying9 hbs (by omega) (by decide) (wl_cmp rfl rfl rfl true (cb_eq_t (a:=bs.getD 0 0) (b:=45) rfl rfl (by omega)) (by decide) (mv 1 rfl (ne_ (cw_region (mv 1 rfl (ne_ (cw_seq ?_)))))))))
   have hbt:∀b,b∈bs.drop 1→b<256:=fun b hb=>hbs b (List.mem_of_mem_drop hb)
   have hlt:(bs.drop 1).length≤17179869184:=by rw [List.length_drop];omega
   by_cases hg:Good 10 (bs.drop 1)
   · 
    have hnz:(wd (vald 10 ((bs.drop 1).map dv))).length≤1048576:=Nat.le_trans (len_wd_dv (base:=10) (by decide) (by decide) hg.2) (by rw [List.length_drop];omega)
    refine cw_region (mv 2 rfl (wl_strlo (bs:=bs) (i:=1) rfl rfl rfl Tryz.underlying9 (by omega) (by decide) (cl (vs:= [.string (strB (bs.drop 1))]) hw1 ((ref4_ReadDec_good hbt hlt hg).mono (Gv.imp (T2.imp (WR.imp hw1.size) Is.imp))) rfl (by kernel_rfl) fun xr32 v30 r32 e31 hw2=>?_)))
    obtain⟨_,_,rfl,⟨A34,n34,c34,rfl,j34,o34⟩,rfl⟩:=r32
    refine mv 1 rfl (pu (v:= .slice A34 n34 c34) rfl (by kernel_rfl) (pu (v:= .int .i64 0) rfl (by kernel_rfl) (mv 2 rfl (ne_ (cw_seq (sr (mv 1 rfl (wl_cmp rfl rfl rfl false (by decide) (by decide) (ne_ (cw_false rfl (cw_skip (eo_then (cw_seq ?_)))))))))))))
    refine cw_region (mv 2 rfl ?_)
    have L35:ln (sg true (vald 10 ((bs.drop 1).map dv)))≤1048576:=by rw [ln_sg];exact hnz
    refine cl (vs:= [.bool true,.slice A34 n34 c34]) hw2 (g_ref5_made hw2.size o34.wi (by rw [j34];exact Nat.le_trans hnz (by decide))) rfl (by kernel_rfl) fun xr38 v36 r38 e37 hw3=>?_
    obtain⟨s39,A39,n39,c39,rfl,z39⟩:=r38
    have hb41:=(hb4.ext (e31.trans e37))
    refine so aggInt hb41 [.bool s39,.slice A39 n39 c39] hw3 ge5 rfl rfl rfl rfl fun v40 hb42 u43 hw4=>(mv 1 rfl (ne_ (cw_ret (eo_ret [.agg #[.bool s39,.slice A39 n39 c39],I0] rfl ⟨⟨_,rfl,load_agg aggInt hb42 [.bool s39,.slice A39 n39 c39] rfl (bq rfl) rfl⟩,rfl,trivial⟩ ?_))))
    have hV:rV bs=sg true (vald 10 ((bs.drop 1).map dv)):=by unfold rV;rw [hzl,if_pos hg,zval,hzn,hzl,sg_true];rfl
    have hE:rE bs=0:=by unfold rE;rw [hzl,if_pos hg]
    exact⟨_,rfl,⟨_,_,rfl,⟨_,_,_,_,rfl,((z39.updT hb41 u43)).cast hV.symm⟩,(show Value.int .i64 (0)=_ by rw [hE])⟩,hw4⟩
   · 
    refine cw_region (mv 2 rfl (wl_strlo (bs:=bs) (i:=1) rfl rfl rfl Tryz.underlying9 (by omega) (by decide) (cl (vs:= [.string (strB (bs.drop 1))]) hw1 (ref4_ReadDec_bad hbt hlt hg) rfl (by kernel_rfl) fun xr47 v45 r47 e46 hw2=>?_)))
    obtain⟨_,_,rfl,rfl,rfl⟩:=r47
    refine mv 1 rfl (pu (v:= .slice none 0 0) rfl (by kernel_rfl) (pu (v:= .int .i64 7) rfl (by kernel_rfl) (mv 2 rfl (ne_ (cw_seq (sr (mv 1 rfl (wl_cmp rfl rfl rfl true (by decide) (by decide) (ne_ (cw_true rfl (sr (pu (v:= .agg #[F0,S0]) rfl (by kernel_rfl) ?_))))))))))))
    have hb50:=(hb4.ext e46)
    refine so aggInt hb50 [F0,S0] hw2 ge5 rfl rfl rfl rfl fun v49 hb51 u52 hw3=>(mv 1 rfl (ne_ (cw_ret (eo_thenR (eo_ret [.agg #[F0,S0],.int .i64 7] rfl ⟨⟨_,rfl,load_agg aggInt hb51 [F0,S0] rfl (bq rfl) rfl⟩,rfl,trivial⟩ ?_)))))
    have hV:rV bs=0:=by unfold rV;rw [hzl,if_neg hg]
    have hE:rE bs=7:=by unfold rE;rw [hzl,if_neg hg]
    exact⟨_,rfl,⟨_,_,rfl,⟨_,_,_,_,rfl,(((Zr.zero (w:=v45) (base:=w.heap.size)).updT hb50 u52)).cast hV.symm⟩,(show Value.int .i64 (7)=_ by rw [hE])⟩,hw3⟩
  · 
   by_cases hf3:bs.take 3= [226,136,146]
   · 
    have hzl:ztl bs=bs.drop 3:=by unfold ztl;rw [if_neg hf1,if_neg hf2,if_pos hf3]
    have hzn:zng bs=true:=by unfold zng;rw [if_neg hf1,if_neg hf2,if_pos hf3]
    obtain⟨h3l,h0v,h1v,h2v⟩:=take3_eq5 hf3
    refine cw_region (mv 1 rfl (wl_pureE rfl rfl (v:= .int .i64 (((strB bs).size:Nat):Int)) (v':= .int .i64 ((bs.length:Nat):Int)) (by decide) (by kernel_rfl) (by rw [strB_size]) (wl_cmp rfl rfl rfl true (cb_gt_t (a:=bs.length) (b:=0) rfl rfl (by omega)) (by decide) (mv 2 rfl (wl_strix (bs:=bs) (i:=0) rfl rfl rfl Tryz.underlying9 hbs (by omega) (by decide) (wl_cmp rfl rfl rfl false (cb_eq_f (a:=bs.getD 0 0) (b:=43) rfl rfl (by omega)) (by decide) (mv 2 rfl (wl_strix (bs:=bs) (i:=0) rfl rfl rfl Tryz.underlying9 hbs (by omega) (by decide) (wl_cmp rfl rfl rfl false (cb_eq_f (a:=bs.getD 0 0) (b:=45) rfl rfl (by omega)) (by decide) (pu (v:= .bool false) rfl (by kernel_rfl) (pu (v:= .bool false) rfl (by kernel_rfl) (ne_ (cw_false rfl ?_)))))))))))))
    refine sr (mv 1 rfl (wl_pureE rfl rfl (v:= .int .i64 (((strB bs).size:Nat):Int)) (v':= .int .i64 ((bs.length:Nat):Int)) (by decide) (by kernel_rfl) (by rw [strB_size]) (wl_cmp rfl rfl rfl true (cb_gt_t (a:=bs.length) (b:=2) rfl rfl (by omega)) (by decide) (mv 2 rfl (wl_strix (bs:=bs) (i:=0) rfl rfl rfl Tryz.underlying9 hbs (by omega) (by decide) (wl_cmp rfl rfl rfl true (cb_eq_t (a:=bs.getD 0 0) (b:=226) rfl rfl (by omega)) (by decide) (pu (v:= .bool true) rfl (by kernel_rfl) (mv 2 rfl (wl_strix (bs:=bs) (i:=1) rfl rfl rfl Tryz.underlying9 hbs (by omega) (by decide) (wl_cmp rfl rfl rfl true (cb_eq_t (a:=bs.getD 1 0) (b:=136) rfl rfl (by omega)) (by decide) (pu (v:= .bool true) rfl (by kernel_rfl) (mv 2 rfl (wl_strix (bs:=bs) (i:=2) rfl rfl rfl Tryz.underlying9 hbs (by omega) (by decide) ?_)))))))))))))
    refine wl_cmp rfl rfl rfl true (cb_eq_t (a:=bs.getD 2 0) (b:=146) rfl rfl (by omega)) (by decide) (pu (v:= .bool true) rfl (by kernel_rfl) (ne_ (cw_true rfl (sr (mv 1 rfl (ne_ (cw_region (mv 1 rfl (ne_ (cw_seq ?_))))))))))
    have hbt:∀b,b∈bs.drop 3→b<256:=fun b hb=>hbs b (List.mem_of_mem_drop hb)
    have hlt:(bs.drop 3).length≤17179869184:=by rw [List.length_drop];omega
    by_cases hg:Good 10 (bs.drop 3)
    · 
     have hnz:(wd (vald 10 ((bs.drop 3).map dv))).length≤1048576:=Nat.le_trans (len_wd_dv (base:=10) (by decide) (by decide) hg.2) (by rw [List.length_drop];omega)
     refine cw_region (mv 2 rfl (wl_strlo (bs:=bs) (i:=3) rfl rfl rfl Tryz.underlying9 (by omega) (by decide) (cl (vs:= [.string (strB (bs.drop 3))]) hw1 ((ref4_ReadDec_good hbt hlt hg).mono (Gv.imp (T2.imp (WR.imp hw1.size) Is.imp))) rfl (by kernel_rfl) fun xr56 v54 r56 e55 hw2=>?_)))
     obtain⟨_,_,rfl,⟨A58,n58,c58,rfl,j58,o58⟩,rfl⟩:=r56
     refine mv 1 rfl (pu (v:= .slice A58 n58 c58) rfl (by kernel_rfl) (pu (v:= .int .i64 0) rfl (by kernel_rfl) (mv 2 rfl (ne_ (cw_seq (sr (mv 1 rfl (wl_cmp rfl rfl rfl false (by decide) (by decide) (ne_ (cw_false rfl (cw_skip (eo_then (cw_seq ?_)))))))))))))
     refine cw_region (mv 2 rfl ?_)
     have L59:ln (sg true (vald 10 ((bs.drop 3).map dv)))≤1048576:=by rw [ln_sg];exact hnz
     refine cl (vs:= [.bool true,.slice A58 n58 c58]) hw2 (g_ref5_made hw2.size o58.wi (by rw [j58];exact Nat.le_trans hnz (by decide))) rfl (by kernel_rfl) fun xr62 v60 r62 e61 hw3=>?_
     obtain⟨s63,A63,n63,c63,rfl,z63⟩:=r62
     have hb65:=(hb4.ext (e55.trans e61))
     refine so aggInt hb65 [.bool s63,.slice A63 n63 c63] hw3 ge5 rfl rfl rfl rfl fun v64 hb66 u67 hw4=>(mv 1 rfl (ne_ (cw_ret (eo_ret [.agg #[.bool s63,.slice A63 n63 c63],I0] rfl ⟨⟨_,rfl,load_agg aggInt hb66 [.bool s63,.slice A63 n63 c63] rfl (bq rfl) rfl⟩,rfl,trivial⟩ ?_))))
     have hV:rV bs=sg true (vald 10 ((bs.drop 3).map dv)):=by unfold rV;rw [hzl,if_pos hg,zval,hzn,hzl,sg_true];rfl
     have hE:rE bs=0:=by unfold rE;rw [hzl,if_pos hg]
     exact⟨_,rfl,⟨_,_,rfl,⟨_,_,_,_,rfl,((z63.updT hb65 u67)).cast hV.symm⟩,(show Value.int .i64 (0)=_ by rw [hE])⟩,hw4⟩
    · 
     refine cw_region (mv 2 rfl (wl_strlo (bs:=bs) (i:=3) rfl rfl rfl Tryz.underlying9 (by omega) (by decide) (cl (vs:= [.string (strB (bs.drop 3))]) hw1 (ref4_ReadDec_bad hbt hlt hg) rfl (by kernel_rfl) fun xr71 v69 r71 e70 hw2=>?_)))
     obtain⟨_,_,rfl,rfl,rfl⟩:=r71
     refine mv 1 rfl (pu (v:= .slice none 0 0) rfl (by kernel_rfl) (pu (v:= .int .i64 7) rfl (by kernel_rfl) (mv 2 rfl (ne_ (cw_seq (sr (mv 1 rfl (wl_cmp rfl rfl rfl true (by decide) (by decide) (ne_ (cw_true rfl (sr (pu (v:= .agg #[F0,S0]) rfl (by kernel_rfl) ?_))))))))))))
     have hb74:=(hb4.ext e70)
     refine so aggInt hb74 [F0,S0] hw2 ge5 rfl rfl rfl rfl fun v73 hb75 u76 hw3=>(mv 1 rfl (ne_ (cw_ret (eo_thenR (eo_ret [.agg #[F0,S0],.int .i64 7] rfl ⟨⟨_,rfl,load_agg aggInt hb75 [F0,S0] rfl (bq rfl) rfl⟩,rfl,trivial⟩ ?_)))))
     have hV:rV bs=0:=by unfold rV;rw [hzl,if_neg hg]
     have hE:rE bs=7:=by unfold rE;rw [hzl,if_neg hg]
     exact⟨_,rfl,⟨_,_,rfl,⟨_,_,_,_,rfl,(((Zr.zero (w:=v69) (base:=w.heap.size)).updT hb74 u76)).cast hV.symm⟩,(show Value.int .i64 (7)=_ by rw [hE])⟩,hw3⟩
   · 
    have hzl:ztl bs=bs.drop 0:=by unfold ztl;rw [if_neg hf1,if_neg hf2,if_neg hf3];rfl
    have hzn:zng bs=false:=by unfold zng;rw [if_neg hf1,if_neg hf2,if_neg hf3]
    by_cases hp0:bs.length>0
    · 
     have h43:bs.getD 0 0≠43:=fun e=>hf1 (take1_of5 hp0 e)
     have h45:bs.getD 0 0≠45:=fun e=>hf2 (take1_of5 hp0 e)
     refine cw_region (mv 1 rfl (wl_pureE rfl rfl (v:= .int .i64 (((strB bs).size:Nat):Int)) (v':= .int .i64 ((bs.length:Nat):Int)) (by decide) (by kernel_rfl) (by rw [strB_size]) (wl_cmp rfl rfl rfl true (cb_gt_t (a:=bs.length) (b:=0) rfl rfl (by omega)) (by decide) (mv 2 rfl (wl_strix (bs:=bs) (i:=0) rfl rfl rfl Tryz.underlying9 hbs (by omega) (by decide) (wl_cmp rfl rfl rfl false (cb_eq_f (a:=bs.getD 0 0) (b:=43) rfl rfl (by omega)) (by decide) (mv 2 rfl (wl_strix (bs:=bs) (i:=0) rfl rfl rfl Tryz.underlying9 hbs (by omega) (by decide) (wl_cmp rfl rfl rfl false (cb_eq_f (a:=bs.getD 0 0) (b:=45) rfl rfl (by omega)) (by decide) (pu (v:= .bool false) rfl (by kernel_rfl) (pu (v:= .bool false) rfl (by kernel_rfl) (ne_ (cw_false rfl ?_)))))))))))))
     refine cw_seq ?_
     by_cases hg2:bs.length>2
     · 
      by_cases h226:bs.getD 0 0=226
      · 
       by_cases h136:bs.getD 1 0=136
       · 
        have h2n:bs.getD 2 0≠146:=fun e=>hf3 (take3_of5 hg2 h226 h136 e)
        refine cw_region (mv 1 rfl (wl_pureE rfl rfl (v:= .int .i64 (((strB bs).size:Nat):Int)) (v':= .int .i64 ((bs.length:Nat):Int)) (by decide) (by kernel_rfl) (by rw [strB_size]) (wl_cmp rfl rfl rfl true (cb_gt_t (a:=bs.length) (b:=2) rfl rfl (by omega)) (by decide) (mv 2 rfl (wl_strix (bs:=bs) (i:=0) rfl rfl rfl Tryz.underlying9 hbs (by omega) (by decide) (wl_cmp rfl rfl rfl true (cb_eq_t (a:=bs.getD 0 0) (b:=226) rfl rfl (by omega)) (by decide) (pu (v:= .bool true) rfl (by kernel_rfl) (mv 2 rfl (wl_strix (bs:=bs) (i:=1) rfl rfl rfl Tryz.underlying9 hbs (by omega) (by decide) (wl_cmp rfl rfl rfl true (cb_eq_t (a:=bs.getD 1 0) (b:=136) rfl rfl (by omega)) (by decide) (pu (v:= .bool true) rfl (by kernel_rfl) (mv 2 rfl (wl_strix (bs:=bs) (i:=2) rfl rfl rfl Tryz.underlying9 hbs (by omega) (by decide) ?_)))))))))))))
        refine wl_cmp rfl rfl rfl false (cb_eq_f (a:=bs.getD 2 0) (b:=146) rfl rfl (by omega)) (by decide) (pu (v:= .bool false) rfl (by kernel_rfl) (ne_ (cw_false rfl (cw_skip (eo_then (cw_seq ?_))))))
        have hbt:∀b,b∈bs.drop 0→b<256:=fun b hb=>hbs b (List.mem_of_mem_drop hb)
        have hlt:(bs.drop 0).length≤17179869184:=by rw [List.length_drop];omega
        have hatl:0≤bs.length:=Nat.zero_le _
        by_cases hg:Good 10 (bs.drop 0)
        · 
         have hnz:(wd (vald 10 ((bs.drop 0).map dv))).length≤1048576:=Nat.le_trans (len_wd_dv (base:=10) (by decide) (by decide) hg.2) (by rw [List.length_drop];omega)
         refine cw_region (mv 2 rfl (wl_strlo (bs:=bs) (i:=0) rfl rfl rfl Tryz.underlying9 (by omega) (by decide) (cl (vs:= [.string (strB (bs.drop 0))]) hw1 ((ref4_ReadDec_good hbt hlt hg).mono (Gv.imp (T2.imp (WR.imp hw1.size) Is.imp))) rfl (by kernel_rfl) fun xr80 v78 r80 e79 hw2=>?_)))
         obtain⟨_,_,rfl,⟨A82,n82,c82,rfl,j82,o82⟩,rfl⟩:=r80
         refine mv 1 rfl (pu (v:= .slice A82 n82 c82) rfl (by kernel_rfl) (pu (v:= .int .i64 0) rfl (by kernel_rfl) (mv 2 rfl (ne_ (cw_seq (sr (mv 1 rfl (wl_cmp rfl rfl rfl false (by decide) (by decide) (ne_ (cw_false rfl (cw_skip (eo_then (cw_seq ?_)))))))))))))
         refine cw_region (mv 2 rfl ?_)
         have L83:ln (sg false (vald 10 ((bs.drop 0).map dv)))≤1048576:=by rw [ln_sg];exact hnz
         refine cl (vs:= [F0,.slice A82 n82 c82]) hw2 (g_ref5_made hw2.size o82.wi (by rw [j82];exact Nat.le_trans hnz (by decide))) rfl (by kernel_rfl) fun xr86 v84 r86 e85 hw3=>?_
         obtain⟨s87,A87,n87,c87,rfl,z87⟩:=r86
         have hb89:=(hb4.ext (e79.trans e85))
         refine so aggInt hb89 [.bool s87,.slice A87 n87 c87] hw3 ge5 rfl rfl rfl rfl fun v88 hb90 u91 hw4=>(mv 1 rfl (ne_ (cw_ret (eo_ret [.agg #[.bool s87,.slice A87 n87 c87],I0] rfl ⟨⟨_,rfl,load_agg aggInt hb90 [.bool s87,.slice A87 n87 c87] rfl (bq rfl) rfl⟩,rfl,trivial⟩ ?_))))
         have hV:rV bs=sg false (vald 10 ((bs.drop 0).map dv)):=by unfold rV;rw [hzl,if_pos hg,zval,hzn,hzl,sg_false];rfl
         have hE:rE bs=0:=by unfold rE;rw [hzl,if_pos hg]
         exact⟨_,rfl,⟨_,_,rfl,⟨_,_,_,_,rfl,((z87.updT hb89 u91)).cast hV.symm⟩,(show Value.int .i64 (0)=_ by rw [hE])⟩,hw4⟩
        · 
         refine cw_region (mv 2 rfl (wl_strlo (bs:=bs) (i:=0) rfl rfl rfl Tryz.underlying9 (by omega) (by decide) (cl (vs:= [.string (strB (bs.drop 0))]) hw1 (ref4_ReadDec_bad hbt hlt hg) rfl (by kernel_rfl) fun xr95 v93 r95 e94 hw2=>?_)))
         obtain⟨_,_,rfl,rfl,rfl⟩:=r95
         refine mv 1 rfl (pu (v:= .slice none 0 0) rfl (by kernel_rfl) (pu (v:= .int .i64 7) rfl (by kernel_rfl) (mv 2 rfl (ne_ (cw_seq (sr (mv 1 rfl (wl_cmp rfl rfl rfl true (by decide) (by decide) (ne_ (cw_true rfl (sr (pu (v:= .agg #[F0,S0]) rfl (by kernel_rfl) ?_))))))))))))
         have hb98:=(hb4.ext e94)
         refine so aggInt hb98 [F0,S0] hw2 ge5 rfl rfl rfl rfl fun v97 hb99 u100 hw3=>(mv 1 rfl (ne_ (cw_ret (eo_thenR (eo_ret [.agg #[F0,S0],.int .i64 7] rfl ⟨⟨_,rfl,load_agg aggInt hb99 [F0,S0] rfl (bq rfl) rfl⟩,rfl,trivial⟩ ?_)))))
         have hV:rV bs=0:=by unfold rV;rw [hzl,if_neg hg]
         have hE:rE bs=7:=by unfold rE;rw [hzl,if_neg hg]
         exact⟨_,rfl,⟨_,_,rfl,⟨_,_,_,_,rfl,(((Zr.zero (w:=v93) (base:=w.heap.size)).updT hb98 u100)).cast hV.symm⟩,(show Value.int .i64 (7)=_ by rw [hE])⟩,hw3⟩
       · 
        refine cw_region (mv 1 rfl (wl_pureE rfl rfl (v:= .int .i64 (((strB bs).size:Nat):Int)) (v':= .int .i64 ((bs.length:Nat):Int)) (by decide) (by kernel_rfl) (by rw [strB_size]) (wl_cmp rfl rfl rfl true (cb_gt_t (a:=bs.length) (b:=2) rfl rfl (by omega)) (by decide) (mv 2 rfl (wl_strix (bs:=bs) (i:=0) rfl rfl rfl Tryz.underlying9 hbs (by omega) (by decide) (wl_cmp rfl rfl rfl true (cb_eq_t (a:=bs.getD 0 0) (b:=226) rfl rfl (by omega)) (by decide) (pu (v:= .bool true) rfl (by kernel_rfl) (mv 2 rfl (wl_strix (bs:=bs) (i:=1) rfl rfl rfl Tryz.underlying9 hbs (by omega) (by decide) (wl_cmp rfl rfl rfl false (cb_eq_f (a:=bs.getD 1 0) (b:=136) rfl rfl (by omega)) (by decide) (pu (v:= .bool false) rfl (by kernel_rfl) (mv 4 rfl (pu (v:= .bool false) rfl (by kernel_rfl) ?_)))))))))))))
        refine ne_ (cw_false rfl (cw_skip (eo_then (cw_seq ?_))))
        have hbt:∀b,b∈bs.drop 0→b<256:=fun b hb=>hbs b (List.mem_of_mem_drop hb)
        have hlt:(bs.drop 0).length≤17179869184:=by rw [List.length_drop];omega
        have hatl:0≤bs.length:=Nat.zero_le _
        by_cases hg:Good 10 (bs.drop 0)
        · 
         have hnz:(wd (vald 10 ((bs.drop 0).map dv))).length≤1048576:=Nat.le_trans (len_wd_dv (base:=10) (by decide) (by decide) hg.2) (by rw [List.length_drop];omega)
         refine cw_region (mv 2 rfl (wl_strlo (bs:=bs) (i:=0) rfl rfl rfl Tryz.underlying9 (by omega) (by decide) (cl (vs:= [.string (strB (bs.drop 0))]) hw1 ((ref4_ReadDec_good hbt hlt hg).mono (Gv.imp (T2.imp (WR.imp hw1.size) Is.imp))) rfl (by kernel_rfl) fun xr104 v102 r104 e103 hw2=>?_)))
         obtain⟨_,_,rfl,⟨A106,n106,c106,rfl,j106,o106⟩,rfl⟩:=r104
         refine mv 1 rfl (pu (v:= .slice A106 n106 c106) rfl (by kernel_rfl) (pu (v:= .int .i64 0) rfl (by kernel_rfl) (mv 2 rfl (ne_ (cw_seq (sr (mv 1 rfl (wl_cmp rfl rfl rfl false (by decide) (by decide) (ne_ (cw_false rfl (cw_skip (eo_then (cw_seq ?_)))))))))))))
         refine cw_region (mv 2 rfl ?_)
         have L107:ln (sg false (vald 10 ((bs.drop 0).map dv)))≤1048576:=by rw [ln_sg];exact hnz
         refine cl (vs:= [F0,.slice A106 n106 c106]) hw2 (g_ref5_made hw2.size o106.wi (by rw [j106];exact Nat.le_trans hnz (by decide))) rfl (by kernel_rfl) fun xr110 v108 r110 e109 hw3=>?_
         obtain⟨s111,A111,n111,c111,rfl,z111⟩:=r110
         have hb113:=(hb4.ext (e103.trans e109))
         refine so aggInt hb113 [.bool s111,.slice A111 n111 c111] hw3 ge5 rfl rfl rfl rfl fun v112 hb114 u115 hw4=>(mv 1 rfl (ne_ (cw_ret (eo_ret [.agg #[.bool s111,.slice A111 n111 c111],I0] rfl ⟨⟨_,rfl,load_agg aggInt hb114 [.bool s111,.slice A111 n111 c111] rfl (bq rfl) rfl⟩,rfl,trivial⟩ ?_))))
         have hV:rV bs=sg false (vald 10 ((bs.drop 0).map dv)):=by unfold rV;rw [hzl,if_pos hg,zval,hzn,hzl,sg_false];rfl
         have hE:rE bs=0:=by unfold rE;rw [hzl,if_pos hg]
         exact⟨_,rfl,⟨_,_,rfl,⟨_,_,_,_,rfl,((z111.updT hb113 u115)).cast hV.symm⟩,(show Value.int .i64 (0)=_ by rw [hE])⟩,hw4⟩
        · 
         refine cw_region (mv 2 rfl (wl_strlo (bs:=bs) (i:=0) rfl rfl rfl Tryz.underlying9 (by omega) (by decide) (cl (vs:= [.string (strB (bs.drop 0))]) hw1 (ref4_ReadDec_bad hbt hlt hg) rfl (by kernel_rfl) fun xr119 v117 r119 e118 hw2=>?_)))
         obtain⟨_,_,rfl,rfl,rfl⟩:=r119
         refine mv 1 rfl (pu (v:= .slice none 0 0) rfl (by kernel_rfl) (pu (v:= .int .i64 7) rfl (by kernel_rfl) (mv 2 rfl (ne_ (cw_seq (sr (mv 1 rfl (wl_cmp rfl rfl rfl true (by decide) (by decide) (ne_ (cw_true rfl (sr (pu (v:= .agg #[F0,S0]) rfl (by kernel_rfl) ?_))))))))))))
         have hb122:=(hb4.ext e118)
         refine so aggInt hb122 [F0,S0] hw2 ge5 rfl rfl rfl rfl fun v121 hb123 u124 hw3=>(mv 1 rfl (ne_ (cw_ret (eo_thenR (eo_ret [.agg #[F0,S0],.int .i64 7] rfl ⟨⟨_,rfl,load_agg aggInt hb123 [F0,S0] rfl (bq rfl) rfl⟩,rfl,trivial⟩ ?_)))))
         have hV:rV bs=0:=by unfold rV;rw [hzl,if_neg hg]
         have hE:rE bs=7:=by unfold rE;rw [hzl,if_neg hg]
         exact⟨_,rfl,⟨_,_,rfl,⟨_,_,_,_,rfl,(((Zr.zero (w:=v117) (base:=w.heap.size)).updT hb122 u124)).cast hV.symm⟩,(show Value.int .i64 (7)=_ by rw [hE])⟩,hw3⟩
      · 
       refine cw_region (mv 1 rfl (wl_pureE rfl rfl (v:= .int .i64 (((strB bs).size:Nat):Int)) (v':= .int .i64 ((bs.length:Nat):Int)) (by decide) (by kernel_rfl) (by rw [strB_size]) (wl_cmp rfl rfl rfl true (cb_gt_t (a:=bs.length) (b:=2) rfl rfl (by omega)) (by decide) (mv 2 rfl (wl_strix (bs:=bs) (i:=0) rfl rfl rfl Tryz.underlying9 hbs (by omega) (by decide) (wl_cmp rfl rfl rfl false (cb_eq_f (a:=bs.getD 0 0) (b:=226) rfl rfl (by omega)) (by decide) (pu (v:= .bool false) rfl (by kernel_rfl) (mv 4 rfl (pu (v:= .bool false) rfl (by kernel_rfl) (mv 4 rfl (pu (v:= .bool false) rfl (by kernel_rfl) (ne_ (cw_false rfl ?_)))))))))))))
       refine cw_skip (eo_then (cw_seq ?_))
       have hbt:∀b,b∈bs.drop 0→b<256:=fun b hb=>hbs b (List.mem_of_mem_drop hb)
       have hlt:(bs.drop 0).length≤17179869184:=by rw [List.length_drop];omega
       have hatl:0≤bs.length:=Nat.zero_le _
       by_cases hg:Good 10 (bs.drop 0)
       · 
        have hnz:(wd (vald 10 ((bs.drop 0).map dv))).length≤1048576:=Nat.le_trans (len_wd_dv (base:=10) (by decide) (by decide) hg.2) (by rw [List.length_drop];omega)
        refine cw_region (mv 2 rfl (wl_strlo (bs:=bs) (i:=0) rfl rfl rfl Tryz.underlying9 (by omega) (by decide) (cl (vs:= [.string (strB (bs.drop 0))]) hw1 ((ref4_ReadDec_good hbt hlt hg).mono (Gv.imp (T2.imp (WR.imp hw1.size) Is.imp))) rfl (by kernel_rfl) fun xr128 v126 r128 e127 hw2=>?_)))
        obtain⟨_,_,rfl,⟨A130,n130,c130,rfl,j130,o130⟩,rfl⟩:=r128
        refine mv 1 rfl (pu (v:= .slice A130 n130 c130) rfl (by kernel_rfl) (pu (v:= .int .i64 0) rfl (by kernel_rfl) (mv 2 rfl (ne_ (cw_seq (sr (mv 1 rfl (wl_cmp rfl rfl rfl false (by decide) (by decide) (ne_ (cw_false rfl (cw_skip (eo_then (cw_seq ?_)))))))))))))
        refine cw_region (mv 2 rfl ?_)
        have L131:ln (sg false (vald 10 ((bs.drop 0).map dv)))≤1048576:=by rw [ln_sg];exact hnz
        refine cl (vs:= [F0,.slice A130 n130 c130]) hw2 (g_ref5_made hw2.size o130.wi (by rw [j130];exact Nat.le_trans hnz (by decide))) rfl (by kernel_rfl) fun xr134 v132 r134 e133 hw3=>?_
        obtain⟨s135,A135,n135,c135,rfl,z135⟩:=r134
        have hb137:=(hb4.ext (e127.trans e133))
        refine so aggInt hb137 [.bool s135,.slice A135 n135 c135] hw3 ge5 rfl rfl rfl rfl fun v136 hb138 u139 hw4=>(mv 1 rfl (ne_ (cw_ret (eo_ret [.agg #[.bool s135,.slice A135 n135 c135],I0] rfl ⟨⟨_,rfl,load_agg aggInt hb138 [.bool s135,.slice A135 n135 c135] rfl (bq rfl) rfl⟩,rfl,trivial⟩ ?_))))
        have hV:rV bs=sg false (vald 10 ((bs.drop 0).map dv)):=by unfold rV;rw [hzl,if_pos hg,zval,hzn,hzl,sg_false];rfl
        have hE:rE bs=0:=by unfold rE;rw [hzl,if_pos hg]
        exact⟨_,rfl,⟨_,_,rfl,⟨_,_,_,_,rfl,((z135.updT hb137 u139)).cast hV.symm⟩,(show Value.int .i64 (0)=_ by rw [hE])⟩,hw4⟩
       · 
        refine cw_region (mv 2 rfl (wl_strlo (bs:=bs) (i:=0) rfl rfl rfl Tryz.underlying9 (by omega) (by decide) (cl (vs:= [.string (strB (bs.drop 0))]) hw1 (ref4_ReadDec_bad hbt hlt hg) rfl (by kernel_rfl) fun xr143 v141 r143 e142 hw2=>?_)))
        obtain⟨_,_,rfl,rfl,rfl⟩:=r143
        refine mv 1 rfl (pu (v:= .slice none 0 0) rfl (by kernel_rfl) (pu (v:= .int .i64 7) rfl (by kernel_rfl) (mv 2 rfl (ne_ (cw_seq (sr (mv 1 rfl (wl_cmp rfl rfl rfl true (by decide) (by decide) (ne_ (cw_true rfl (sr (pu (v:= .agg #[F0,S0]) rfl (by kernel_rfl) ?_))))))))))))
        have hb146:=(hb4.ext e142)
        refine so aggInt hb146 [F0,S0] hw2 ge5 rfl rfl rfl rfl fun v145 hb147 u148 hw3=>(mv 1 rfl (ne_ (cw_ret (eo_thenR (eo_ret [.agg #[F0,S0],.int .i64 7] rfl ⟨⟨_,rfl,load_agg aggInt hb147 [F0,S0] rfl (bq rfl) rfl⟩,rfl,trivial⟩ ?_)))))
        have hV:rV bs=0:=by unfold rV;rw [hzl,if_neg hg]
        have hE:rE bs=7:=by unfold rE;rw [hzl,if_neg hg]
        exact⟨_,rfl,⟨_,_,rfl,⟨_,_,_,_,rfl,(((Zr.zero (w:=v141) (base:=w.heap.size)).updT hb146 u148)).cast hV.symm⟩,(show Value.int .i64 (7)=_ by rw [hE])⟩,hw3⟩
     · 
      refine cw_region (mv 1 rfl (wl_pureE rfl rfl (v:= .int .i64 (((strB bs).size:Nat):Int)) (v':= .int .i64 ((bs.length:Nat):Int)) (by decide) (by kernel_rfl) (by rw [strB_size]) (wl_cmp rfl rfl rfl false (cb_gt_f (a:=bs.length) (b:=2) rfl rfl (by omega)) (by decide) (mv 4 rfl (pu (v:= .bool false) rfl (by kernel_rfl) (mv 4 rfl (pu (v:= .bool false) rfl (by kernel_rfl) (mv 4 rfl (pu (v:= .bool false) rfl (by kernel_rfl) (ne_ (cw_false rfl (cw_skip (eo_then ?_)))))))))))))
      refine cw_seq ?_
      have hbt:∀b,b∈bs.drop 0→b<256:=fun b hb=>hbs b (List.mem_of_mem_drop hb)
      have hlt:(bs.drop 0).length≤17179869184:=by rw [List.length_drop];omega
      have hatl:0≤bs.length:=Nat.zero_le _
      by_cases hg:Good 10 (bs.drop 0)
      · 
       have hnz:(wd (vald 10 ((bs.drop 0).map dv))).length≤1048576:=Nat.le_trans (len_wd_dv (base:=10) (by decide) (by decide) hg.2) (by rw [List.length_drop];omega)
       refine cw_region (mv 2 rfl (wl_strlo (bs:=bs) (i:=0) rfl rfl rfl Tryz.underlying9 (by omega) (by decide) (cl (vs:= [.string (strB (bs.drop 0))]) hw1 ((ref4_ReadDec_good hbt hlt hg).mono (Gv.imp (T2.imp (WR.imp hw1.size) Is.imp))) rfl (by kernel_rfl) fun xr152 v150 r152 e151 hw2=>?_)))
       obtain⟨_,_,rfl,⟨A154,n154,c154,rfl,j154,o154⟩,rfl⟩:=r152
       refine mv 1 rfl (pu (v:= .slice A154 n154 c154) rfl (by kernel_rfl) (pu (v:= .int .i64 0) rfl (by kernel_rfl) (mv 2 rfl (ne_ (cw_seq (sr (mv 1 rfl (wl_cmp rfl rfl rfl false (by decide) (by decide) (ne_ (cw_false rfl (cw_skip (eo_then (cw_seq ?_)))))))))))))
       refine cw_region (mv 2 rfl ?_)
       have L155:ln (sg false (vald 10 ((bs.drop 0).map dv)))≤1048576:=by rw [ln_sg];exact hnz
       refine cl (vs:= [F0,.slice A154 n154 c154]) hw2 (g_ref5_made hw2.size o154.wi (by rw [j154];exact Nat.le_trans hnz (by decide))) rfl (by kernel_rfl) fun xr158 v156 r158 e157 hw3=>?_
       obtain⟨s159,A159,n159,c159,rfl,z159⟩:=r158
       have hb161:=(hb4.ext (e151.trans e157))
       refine so aggInt hb161 [.bool s159,.slice A159 n159 c159] hw3 ge5 rfl rfl rfl rfl fun v160 hb162 u163 hw4=>(mv 1 rfl (ne_ (cw_ret (eo_ret [.agg #[.bool s159,.slice A159 n159 c159],I0] rfl ⟨⟨_,rfl,load_agg aggInt hb162 [.bool s159,.slice A159 n159 c159] rfl (bq rfl) rfl⟩,rfl,trivial⟩ ?_))))
       have hV:rV bs=sg false (vald 10 ((bs.drop 0).map dv)):=by unfold rV;rw [hzl,if_pos hg,zval,hzn,hzl,sg_false];rfl
       have hE:rE bs=0:=by unfold rE;rw [hzl,if_pos hg]
       exact⟨_,rfl,⟨_,_,rfl,⟨_,_,_,_,rfl,((z159.updT hb161 u163)).cast hV.symm⟩,(show Value.int .i64 (0)=_ by rw [hE])⟩,hw4⟩
      · 
       refine cw_region (mv 2 rfl (wl_strlo (bs:=bs) (i:=0) rfl rfl rfl Tryz.underlying9 (by omega) (by decide) (cl (vs:= [.string (strB (bs.drop 0))]) hw1 (ref4_ReadDec_bad hbt hlt hg) rfl (by kernel_rfl) fun xr167 v165 r167 e166 hw2=>?_)))
       obtain⟨_,_,rfl,rfl,rfl⟩:=r167
       refine mv 1 rfl (pu (v:= .slice none 0 0) rfl (by kernel_rfl) (pu (v:= .int .i64 7) rfl (by kernel_rfl) (mv 2 rfl (ne_ (cw_seq (sr (mv 1 rfl (wl_cmp rfl rfl rfl true (by decide) (by decide) (ne_ (cw_true rfl (sr (pu (v:= .agg #[F0,S0]) rfl (by kernel_rfl) ?_))))))))))))
       have hb170:=(hb4.ext e166)
       refine so aggInt hb170 [F0,S0] hw2 ge5 rfl rfl rfl rfl fun v169 hb171 u172 hw3=>(mv 1 rfl (ne_ (cw_ret (eo_thenR (eo_ret [.agg #[F0,S0],.int .i64 7] rfl ⟨⟨_,rfl,load_agg aggInt hb171 [F0,S0] rfl (bq rfl) rfl⟩,rfl,trivial⟩ ?_)))))
       have hV:rV bs=0:=by unfold rV;rw [hzl,if_neg hg]
       have hE:rE bs=7:=by unfold rE;rw [hzl,if_neg hg]
       exact⟨_,rfl,⟨_,_,rfl,⟨_,_,_,_,rfl,(((Zr.zero (w:=v165) (base:=w.heap.size)).updT hb170 u172)).cast hV.symm⟩,(show Value.int .i64 (7)=_ by rw [hE])⟩,hw3⟩
    · 
     refine cw_region (mv 1 rfl (wl_pureE rfl rfl (v:= .int .i64 (((strB bs).size:Nat):Int)) (v':= .int .i64 ((bs.length:Nat):Int)) (by decide) (by kernel_rfl) (by rw [strB_size]) (wl_cmp rfl rfl rfl false (cb_gt_f (a:=bs.length) (b:=0) rfl rfl (by omega)) (by decide) (mv 9 rfl (pu (v:= .bool false) rfl (by kernel_rfl) (ne_ (cw_false rfl (cw_seq ?_))))))))
     by_cases hg2:bs.length>2
     · 
      by_cases h226:bs.getD 0 0=226
      · 
       by_cases h136:bs.getD 1 0=136
       · 
        have h2n:bs.getD 2 0≠146:=fun e=>hf3 (take3_of5 hg2 h226 h136 e)
        refine cw_region (mv 1 rfl (wl_pureE rfl rfl (v:= .int .i64 (((strB bs).size:Nat):Int)) (v':= .int .i64 ((bs.length:Nat):Int)) (by decide) (by kernel_rfl) (by rw [strB_size]) (wl_cmp rfl rfl rfl true (cb_gt_t (a:=bs.length) (b:=2) rfl rfl (by omega)) (by decide) (mv 2 rfl (wl_strix (bs:=bs) (i:=0) rfl rfl rfl Tryz.underlying9 hbs (by omega) (by decide) (wl_cmp rfl rfl rfl true (cb_eq_t (a:=bs.getD 0 0) (b:=226) rfl rfl (by omega)) (by decide) (pu (v:= .bool true) rfl (by kernel_rfl) (mv 2 rfl (wl_strix (bs:=bs) (i:=1) rfl rfl rfl Tryz.underlying9 hbs (by omega) (by decide) (wl_cmp rfl rfl rfl true (cb_eq_t (a:=bs.getD 1 0) (b:=136) rfl rfl (by omega)) (by decide) (pu (v:= .bool true) rfl (by kernel_rfl) (mv 2 rfl (wl_strix (bs:=bs) (i:=2) rfl rfl rfl Tryz.underlying9 hbs (by omega) (by decide) ?_)))))))))))))
        refine wl_cmp rfl rfl rfl false (cb_eq_f (a:=bs.getD 2 0) (b:=146) rfl rfl (by omega)) (by decide) (pu (v:= .bool false) rfl (by kernel_rfl) (ne_ (cw_false rfl (cw_skip (eo_then (cw_seq ?_))))))
        have hbt:∀b,b∈bs.drop 0→b<256:=fun b hb=>hbs b (List.mem_of_mem_drop hb)
        have hlt:(bs.drop 0).length≤17179869184:=by rw [List.length_drop];omega
        have hatl:0≤bs.length:=Nat.zero_le _
        by_cases hg:Good 10 (bs.drop 0)
        · 
         have hnz:(wd (vald 10 ((bs.drop 0).map dv))).length≤1048576:=Nat.le_trans (len_wd_dv (base:=10) (by decide) (by decide) hg.2) (by rw [List.length_drop];omega)
         refine cw_region (mv 2 rfl (wl_strlo (bs:=bs) (i:=0) rfl rfl rfl Tryz.underlying9 (by omega) (by decide) (cl (vs:= [.string (strB (bs.drop 0))]) hw1 ((ref4_ReadDec_good hbt hlt hg).mono (Gv.imp (T2.imp (WR.imp hw1.size) Is.imp))) rfl (by kernel_rfl) fun xr176 v174 r176 e175 hw2=>?_)))
         obtain⟨_,_,rfl,⟨A178,n178,c178,rfl,j178,o178⟩,rfl⟩:=r176
         refine mv 1 rfl (pu (v:= .slice A178 n178 c178) rfl (by kernel_rfl) (pu (v:= .int .i64 0) rfl (by kernel_rfl) (mv 2 rfl (ne_ (cw_seq (sr (mv 1 rfl (wl_cmp rfl rfl rfl false (by decide) (by decide) (ne_ (cw_false rfl (cw_skip (eo_then (cw_seq ?_)))))))))))))
         refine cw_region (mv 2 rfl ?_)
         have L179:ln (sg false (vald 10 ((bs.drop 0).map dv)))≤1048576:=by rw [ln_sg];exact hnz
         refine cl (vs:= [F0,.slice A178 n178 c178]) hw2 (g_ref5_made hw2.size o178.wi (by rw [j178];exact Nat.le_trans hnz (by decide))) rfl (by kernel_rfl) fun xr182 v180 r182 e181 hw3=>?_
         obtain⟨s183,A183,n183,c183,rfl,z183⟩:=r182
         have hb185:=(hb4.ext (e175.trans e181))
         refine so aggInt hb185 [.bool s183,.slice A183 n183 c183] hw3 ge5 rfl rfl rfl rfl fun v184 hb186 u187 hw4=>(mv 1 rfl (ne_ (cw_ret (eo_ret [.agg #[.bool s183,.slice A183 n183 c183],I0] rfl ⟨⟨_,rfl,load_agg aggInt hb186 [.bool s183,.slice A183 n183 c183] rfl (bq rfl) rfl⟩,rfl,trivial⟩ ?_))))
         have hV:rV bs=sg false (vald 10 ((bs.drop 0).map dv)):=by unfold rV;rw [hzl,if_pos hg,zval,hzn,hzl,sg_false];rfl
         have hE:rE bs=0:=by unfold rE;rw [hzl,if_pos hg]
         exact⟨_,rfl,⟨_,_,rfl,⟨_,_,_,_,rfl,((z183.updT hb185 u187)).cast hV.symm⟩,(show Value.int .i64 (0)=_ by rw [hE])⟩,hw4⟩
        · 
         refine cw_region (mv 2 rfl (wl_strlo (bs:=bs) (i:=0) rfl rfl rfl Tryz.underlying9 (by omega) (by decide) (cl (vs:= [.string (strB (bs.drop 0))]) hw1 (ref4_ReadDec_bad hbt hlt hg) rfl (by kernel_rfl) fun xr191 v189 r191 e190 hw2=>?_)))
         obtain⟨_,_,rfl,rfl,rfl⟩:=r191
         refine mv 1 rfl (pu (v:= .slice none 0 0) rfl (by kernel_rfl) (pu (v:= .int .i64 7) rfl (by kernel_rfl) (mv 2 rfl (ne_ (cw_seq (sr (mv 1 rfl (wl_cmp rfl rfl rfl true (by decide) (by decide) (ne_ (cw_true rfl (sr (pu (v:= .agg #[F0,S0]) rfl (by kernel_rfl) ?_))))))))))))
         have hb194:=(hb4.ext e190)
         refine so aggInt hb194 [F0,S0] hw2 ge5 rfl rfl rfl rfl fun v193 hb195 u196 hw3=>(mv 1 rfl (ne_ (cw_ret (eo_thenR (eo_ret [.agg #[F0,S0],.int .i64 7] rfl ⟨⟨_,rfl,load_agg aggInt hb195 [F0,S0] rfl (bq rfl) rfl⟩,rfl,trivial⟩ ?_)))))
         have hV:rV bs=0:=by unfold rV;rw [hzl,if_neg hg]
         have hE:rE bs=7:=by unfold rE;rw [hzl,if_neg hg]
         exact⟨_,rfl,⟨_,_,rfl,⟨_,_,_,_,rfl,(((Zr.zero (w:=v189) (base:=w.heap.size)).updT hb194 u196)).cast hV.symm⟩,(show Value.int .i64 (7)=_ by rw [hE])⟩,hw3⟩
       · 
        refine cw_region (mv 1 rfl (wl_pureE rfl rfl (v:= .int .i64 (((strB bs).size:Nat):Int)) (v':= .int .i64 ((bs.length:Nat):Int)) (by decide) (by kernel_rfl) (by rw [strB_size]) (wl_cmp rfl rfl rfl true (cb_gt_t (a:=bs.length) (b:=2) rfl rfl (by omega)) (by decide) (mv 2 rfl (wl_strix (bs:=bs) (i:=0) rfl rfl rfl Tryz.underlying9 hbs (by omega) (by decide) (wl_cmp rfl rfl rfl true (cb_eq_t (a:=bs.getD 0 0) (b:=226) rfl rfl (by omega)) (by decide) (pu (v:= .bool true) rfl (by kernel_rfl) (mv 2 rfl (wl_strix (bs:=bs) (i:=1) rfl rfl rfl Tryz.underlying9 hbs (by omega) (by decide) (wl_cmp rfl rfl rfl false (cb_eq_f (a:=bs.getD 1 0) (b:=136) rfl rfl (by omega)) (by decide) (pu (v:= .bool false) rfl (by kernel_rfl) (mv 4 rfl (pu (v:= .bool false) rfl (by kernel_rfl) ?_)))))))))))))
        refine ne_ (cw_false rfl (cw_skip (eo_then (cw_seq ?_))))
        have hbt:∀b,b∈bs.drop 0→b<256:=fun b hb=>hbs b (List.mem_of_mem_drop hb)
        have hlt:(bs.drop 0).length≤17179869184:=by rw [List.length_drop];omega
        have hatl:0≤bs.length:=Nat.zero_le _
        by_cases hg:Good 10 (bs.drop 0)
        · 
         have hnz:(wd (vald 10 ((bs.drop 0).map dv))).length≤1048576:=Nat.le_trans (len_wd_dv (base:=10) (by decide) (by decide) hg.2) (by rw [List.length_drop];omega)
         refine cw_region (mv 2 rfl (wl_strlo (bs:=bs) (i:=0) rfl rfl rfl Tryz.underlying9 (by omega) (by decide) (cl (vs:= [.string (strB (bs.drop 0))]) hw1 ((ref4_ReadDec_good hbt hlt hg).mono (Gv.imp (T2.imp (WR.imp hw1.size) Is.imp))) rfl (by kernel_rfl) fun xr200 v198 r200 e199 hw2=>?_)))
         obtain⟨_,_,rfl,⟨A202,n202,c202,rfl,j202,o202⟩,rfl⟩:=r200
         refine mv 1 rfl (pu (v:= .slice A202 n202 c202) rfl (by kernel_rfl) (pu (v:= .int .i64 0) rfl (by kernel_rfl) (mv 2 rfl (ne_ (cw_seq (sr (mv 1 rfl (wl_cmp rfl rfl rfl false (by decide) (by decide) (ne_ (cw_false rfl (cw_skip (eo_then (cw_seq ?_)))))))))))))
         refine cw_region (mv 2 rfl ?_)
         have L203:ln (sg false (vald 10 ((bs.drop 0).map dv)))≤1048576:=by rw [ln_sg];exact hnz
         refine cl (vs:= [F0,.slice A202 n202 c202]) hw2 (g_ref5_made hw2.size o202.wi (by rw [j202];exact Nat.le_trans hnz (by decide))) rfl (by kernel_rfl) fun xr206 v204 r206 e205 hw3=>?_
         obtain⟨s207,A207,n207,c207,rfl,z207⟩:=r206
         have hb209:=(hb4.ext (e199.trans e205))
         refine so aggInt hb209 [.bool s207,.slice A207 n207 c207] hw3 ge5 rfl rfl rfl rfl fun v208 hb210 u211 hw4=>(mv 1 rfl (ne_ (cw_ret (eo_ret [.agg #[.bool s207,.slice A207 n207 c207],I0] rfl ⟨⟨_,rfl,load_agg aggInt hb210 [.bool s207,.slice A207 n207 c207] rfl (bq rfl) rfl⟩,rfl,trivial⟩ ?_))))
         have hV:rV bs=sg false (vald 10 ((bs.drop 0).map dv)):=by unfold rV;rw [hzl,if_pos hg,zval,hzn,hzl,sg_false];rfl
         have hE:rE bs=0:=by unfold rE;rw [hzl,if_pos hg]
         exact⟨_,rfl,⟨_,_,rfl,⟨_,_,_,_,rfl,((z207.updT hb209 u211)).cast hV.symm⟩,(show Value.int .i64 (0)=_ by rw [hE])⟩,hw4⟩
        · 
         refine cw_region (mv 2 rfl (wl_strlo (bs:=bs) (i:=0) rfl rfl rfl Tryz.underlying9 (by omega) (by decide) (cl (vs:= [.string (strB (bs.drop 0))]) hw1 (ref4_ReadDec_bad hbt hlt hg) rfl (by kernel_rfl) fun xr215 v213 r215 e214 hw2=>?_)))
         obtain⟨_,_,rfl,rfl,rfl⟩:=r215
         refine mv 1 rfl (pu (v:= .slice none 0 0) rfl (by kernel_rfl) (pu (v:= .int .i64 7) rfl (by kernel_rfl) (mv 2 rfl (ne_ (cw_seq (sr (mv 1 rfl (wl_cmp rfl rfl rfl true (by decide) (by decide) (ne_ (cw_true rfl (sr (pu (v:= .agg #[F0,S0]) rfl (by kernel_rfl) ?_))))))))))))
         have hb218:=(hb4.ext e214)
         refine so aggInt hb218 [F0,S0] hw2 ge5 rfl rfl rfl rfl fun v217 hb219 u220 hw3=>(mv 1 rfl (ne_ (cw_ret (eo_thenR (eo_ret [.agg #[F0,S0],.int .i64 7] rfl ⟨⟨_,rfl,load_agg aggInt hb219 [F0,S0] rfl (bq rfl) rfl⟩,rfl,trivial⟩ ?_)))))
         have hV:rV bs=0:=by unfold rV;rw [hzl,if_neg hg]
         have hE:rE bs=7:=by unfold rE;rw [hzl,if_neg hg]
         exact⟨_,rfl,⟨_,_,rfl,⟨_,_,_,_,rfl,(((Zr.zero (w:=v213) (base:=w.heap.size)).updT hb218 u220)).cast hV.symm⟩,(show Value.int .i64 (7)=_ by rw [hE])⟩,hw3⟩
      · 
       refine cw_region (mv 1 rfl (wl_pureE rfl rfl (v:= .int .i64 (((strB bs).size:Nat):Int)) (v':= .int .i64 ((bs.length:Nat):Int)) (by decide) (by kernel_rfl) (by rw [strB_size]) (wl_cmp rfl rfl rfl true (cb_gt_t (a:=bs.length) (b:=2) rfl rfl (by omega)) (by decide) (mv 2 rfl (wl_strix (bs:=bs) (i:=0) rfl rfl rfl Tryz.underlying9 hbs (by omega) (by decide) (wl_cmp rfl rfl rfl false (cb_eq_f (a:=bs.getD 0 0) (b:=226) rfl rfl (by omega)) (by decide) (pu (v:= .bool false) rfl (by kernel_rfl) (mv 4 rfl (pu (v:= .bool false) rfl (by kernel_rfl) (mv 4 rfl (pu (v:= .bool false) rfl (by kernel_rfl) (ne_ (cw_false rfl ?_)))))))))))))
       refine cw_skip (eo_then (cw_seq ?_))
       have hbt:∀b,b∈bs.drop 0→b<256:=fun b hb=>hbs b (List.mem_of_mem_drop hb)
       have hlt:(bs.drop 0).length≤17179869184:=by rw [List.length_drop];omega
       have hatl:0≤bs.length:=Nat.zero_le _
       by_cases hg:Good 10 (bs.drop 0)
       · 
        have hnz:(wd (vald 10 ((bs.drop 0).map dv))).length≤1048576:=Nat.le_trans (len_wd_dv (base:=10) (by decide) (by decide) hg.2) (by rw [List.length_drop];omega)
        refine cw_region (mv 2 rfl (wl_strlo (bs:=bs) (i:=0) rfl rfl rfl Tryz.underlying9 (by omega) (by decide) (cl (vs:= [.string (strB (bs.drop 0))]) hw1 ((ref4_ReadDec_good hbt hlt hg).mono (Gv.imp (T2.imp (WR.imp hw1.size) Is.imp))) rfl (by kernel_rfl) fun xr224 v222 r224 e223 hw2=>?_)))
        obtain⟨_,_,rfl,⟨A226,n226,c226,rfl,j226,o226⟩,rfl⟩:=r224
        refine mv 1 rfl (pu (v:= .slice A226 n226 c226) rfl (by kernel_rfl) (pu (v:= .int .i64 0) rfl (by kernel_rfl) (mv 2 rfl (ne_ (cw_seq (sr (mv 1 rfl (wl_cmp rfl rfl rfl false (by decide) (by decide) (ne_ (cw_false rfl (cw_skip (eo_then (cw_seq ?_)))))))))))))
        refine cw_region (mv 2 rfl ?_)
        have L227:ln (sg false (vald 10 ((bs.drop 0).map dv)))≤1048576:=by rw [ln_sg];exact hnz
        refine cl (vs:= [F0,.slice A226 n226 c226]) hw2 (g_ref5_made hw2.size o226.wi (by rw [j226];exact Nat.le_trans hnz (by decide))) rfl (by kernel_rfl) fun xr230 v228 r230 e229 hw3=>?_
        obtain⟨s231,A231,n231,c231,rfl,z231⟩:=r230
        have hb233:=(hb4.ext (e223.trans e229))
        refine so aggInt hb233 [.bool s231,.slice A231 n231 c231] hw3 ge5 rfl rfl rfl rfl fun v232 hb234 u235 hw4=>(mv 1 rfl (ne_ (cw_ret (eo_ret [.agg #[.bool s231,.slice A231 n231 c231],I0] rfl ⟨⟨_,rfl,load_agg aggInt hb234 [.bool s231,.slice A231 n231 c231] rfl (bq rfl) rfl⟩,rfl,trivial⟩ ?_))))
        have hV:rV bs=sg false (vald 10 ((bs.drop 0).map dv)):=by unfold rV;rw [hzl,if_pos hg,zval,hzn,hzl,sg_false];rfl
        have hE:rE bs=0:=by unfold rE;rw [hzl,if_pos hg]
        exact⟨_,rfl,⟨_,_,rfl,⟨_,_,_,_,rfl,((z231.updT hb233 u235)).cast hV.symm⟩,(show Value.int .i64 (0)=_ by rw [hE])⟩,hw4⟩
       · 
        refine cw_region (mv 2 rfl (wl_strlo (bs:=bs) (i:=0) rfl rfl rfl Tryz.underlying9 (by omega) (by decide) (cl (vs:= [.string (strB (bs.drop 0))]) hw1 (ref4_ReadDec_bad hbt hlt hg) rfl (by kernel_rfl) fun xr239 v237 r239 e238 hw2=>?_)))
        obtain⟨_,_,rfl,rfl,rfl⟩:=r239
        refine mv 1 rfl (pu (v:= .slice none 0 0) rfl (by kernel_rfl) (pu (v:= .int .i64 7) rfl (by kernel_rfl) (mv 2 rfl (ne_ (cw_seq (sr (mv 1 rfl (wl_cmp rfl rfl rfl true (by decide) (by decide) (ne_ (cw_true rfl (sr (pu (v:= .agg #[F0,S0]) rfl (by kernel_rfl) ?_))))))))))))
        have hb242:=(hb4.ext e238)
        refine so aggInt hb242 [F0,S0] hw2 ge5 rfl rfl rfl rfl fun v241 hb243 u244 hw3=>(mv 1 rfl (ne_ (cw_ret (eo_thenR (eo_ret [.agg #[F0,S0],.int .i64 7] rfl ⟨⟨_,rfl,load_agg aggInt hb243 [F0,S0] rfl (bq rfl) rfl⟩,rfl,trivial⟩ ?_)))))
        have hV:rV bs=0:=by unfold rV;rw [hzl,if_neg hg]
        have hE:rE bs=7:=by unfold rE;rw [hzl,if_neg hg]
        exact⟨_,rfl,⟨_,_,rfl,⟨_,_,_,_,rfl,(((Zr.zero (w:=v237) (base:=w.heap.size)).updT hb242 u244)).cast hV.symm⟩,(show Value.int .i64 (7)=_ by rw [hE])⟩,hw3⟩
     · 
      refine cw_region (mv 1 rfl (wl_pureE rfl rfl (v:= .int .i64 (((strB bs).size:Nat):Int)) (v':= .int .i64 ((bs.length:Nat):Int)) (by decide) (by kernel_rfl) (by rw [strB_size]) (wl_cmp rfl rfl rfl false (cb_gt_f (a:=bs.length) (b:=2) rfl rfl (by omega)) (by decide) (mv 4 rfl (pu (v:= .bool false) rfl (by kernel_rfl) (mv 4 rfl (pu (v:= .bool false) rfl (by kernel_rfl) (mv 4 rfl (pu (v:= .bool false) rfl (by kernel_rfl) (ne_ (cw_false rfl (cw_skip (eo_then ?_)))))))))))))
      refine cw_seq ?_
      have hbt:∀b,b∈bs.drop 0→b<256:=fun b hb=>hbs b (List.mem_of_mem_drop hb)
      have hlt:(bs.drop 0).length≤17179869184:=by rw [List.length_drop];omega
      have hatl:0≤bs.length:=Nat.zero_le _
      by_cases hg:Good 10 (bs.drop 0)
      · 
       have hnz:(wd (vald 10 ((bs.drop 0).map dv))).length≤1048576:=Nat.le_trans (len_wd_dv (base:=10) (by decide) (by decide) hg.2) (by rw [List.length_drop];omega)
       refine cw_region (mv 2 rfl (wl_strlo (bs:=bs) (i:=0) rfl rfl rfl Tryz.underlying9 (by omega) (by decide) (cl (vs:= [.string (strB (bs.drop 0))]) hw1 ((ref4_ReadDec_good hbt hlt hg).mono (Gv.imp (T2.imp (WR.imp hw1.size) Is.imp))) rfl (by kernel_rfl) fun xr248 v246 r248 e247 hw2=>?_)))
       obtain⟨_,_,rfl,⟨A250,n250,c250,rfl,j250,o250⟩,rfl⟩:=r248
       refine mv 1 rfl (pu (v:= .slice A250 n250 c250) rfl (by kernel_rfl) (pu (v:= .int .i64 0) rfl (by kernel_rfl) (mv 2 rfl (ne_ (cw_seq (sr (mv 1 rfl (wl_cmp rfl rfl rfl false (by decide) (by decide) (ne_ (cw_false rfl (cw_skip (eo_then (cw_seq ?_)))))))))))))
       refine cw_region (mv 2 rfl ?_)
       have L251:ln (sg false (vald 10 ((bs.drop 0).map dv)))≤1048576:=by rw [ln_sg];exact hnz
       refine cl (vs:= [F0,.slice A250 n250 c250]) hw2 (g_ref5_made hw2.size o250.wi (by rw [j250];exact Nat.le_trans hnz (by decide))) rfl (by kernel_rfl) fun xr254 v252 r254 e253 hw3=>?_
       obtain⟨s255,A255,n255,c255,rfl,z255⟩:=r254
       have hb257:=(hb4.ext (e247.trans e253))
       refine so aggInt hb257 [.bool s255,.slice A255 n255 c255] hw3 ge5 rfl rfl rfl rfl fun v256 hb258 u259 hw4=>(mv 1 rfl (ne_ (cw_ret (eo_ret [.agg #[.bool s255,.slice A255 n255 c255],I0] rfl ⟨⟨_,rfl,load_agg aggInt hb258 [.bool s255,.slice A255 n255 c255] rfl (bq rfl) rfl⟩,rfl,trivial⟩ ?_))))
       have hV:rV bs=sg false (vald 10 ((bs.drop 0).map dv)):=by unfold rV;rw [hzl,if_pos hg,zval,hzn,hzl,sg_false];rfl
       have hE:rE bs=0:=by unfold rE;rw [hzl,if_pos hg]
       exact⟨_,rfl,⟨_,_,rfl,⟨_,_,_,_,rfl,((z255.updT hb257 u259)).cast hV.symm⟩,(show Value.int .i64 (0)=_ by rw [hE])⟩,hw4⟩
      · 
       refine cw_region (mv 2 rfl (wl_strlo (bs:=bs) (i:=0) rfl rfl rfl Tryz.underlying9 (by omega) (by decide) (cl (vs:= [.string (strB (bs.drop 0))]) hw1 (ref4_ReadDec_bad hbt hlt hg) rfl (by kernel_rfl) fun xr263 v261 r263 e262 hw2=>?_)))
       obtain⟨_,_,rfl,rfl,rfl⟩:=r263
       refine mv 1 rfl (pu (v:= .slice none 0 0) rfl (by kernel_rfl) (pu (v:= .int .i64 7) rfl (by kernel_rfl) (mv 2 rfl (ne_ (cw_seq (sr (mv 1 rfl (wl_cmp rfl rfl rfl true (by decide) (by decide) (ne_ (cw_true rfl (sr (pu (v:= .agg #[F0,S0]) rfl (by kernel_rfl) ?_))))))))))))
       have hb266:=(hb4.ext e262)
       refine so aggInt hb266 [F0,S0] hw2 ge5 rfl rfl rfl rfl fun v265 hb267 u268 hw3=>(mv 1 rfl (ne_ (cw_ret (eo_thenR (eo_ret [.agg #[F0,S0],.int .i64 7] rfl ⟨⟨_,rfl,load_agg aggInt hb267 [F0,S0] rfl (bq rfl) rfl⟩,rfl,trivial⟩ ?_)))))
       have hV:rV bs=0:=by unfold rV;rw [hzl,if_neg hg]
       have hE:rE bs=7:=by unfold rE;rw [hzl,if_neg hg]
       exact⟨_,rfl,⟨_,_,rfl,⟨_,_,_,_,rfl,(((Zr.zero (w:=v261) (base:=w.heap.size)).updT hb266 u268)).cast hV.symm⟩,(show Value.int .i64 (7)=_ by rw [hE])⟩,hw3⟩
theorem g_ref5_Read {w:World}{b:Nat}(hb:b≤w.heap.size){bs:List Nat}(hbs:∀b,b∈bs→b<256) (hlen:bs.length≤1048576):Calls Tryz.prog 114 #[.string (strB bs)] w (Gv w (T2 (ZR b (rV bs)) (Is (.int .i64 (rE bs))))):=(g_ref5_ReadI hbs hlen).mono (Gv.imp (T2.imp (ZR.imp hb) Is.imp))
end Go.Proofs.YthggegdkpalgbaaGreatDoor

namespace Go.Proofs.YthggegdkpalgbaaGreatDoor
open Go.RowKit
def vP (x n:Int):Int:=if n<0 then 0 else if 256<n then 0 else x^n.toNat
def eP (n:Int):Int:=if n<0 then 3 else if 256<n then 5 else 0
def vD (zs ys:List Int) (n m:Nat):Int:=if n=m then dotK zs ys n else 0
def eD (n m:Nat):Int:=if n=m then 0 else 2
theorem ln_vP {x n:Int}(h:ln x≤1048576):ln (vP x n)≤268435457:=by
 unfold vP;split
 ·exact Nat.zero_le _
 ·split
  ·exact Nat.zero_le _
  ·show (wd (x^n.toNat).natAbs).length≤_
   rw [Int.natAbs_pow];exact pow_len5 h (by omega)
theorem ln_vD {zs ys:List Int}{n m N:Nat}(h:∀i,ln (zs.getD i 0)≤N) (h2:∀i,ln (ys.getD i 0)≤N):ln (vD zs ys n m)≤2*N+n:=by
 unfold vD;split
 ·exact ln_dotK h h2 n
 ·exact Nat.zero_le _
theorem ln_rV {bs:List Nat}(h:bs.length≤1048576):ln (rV bs)≤1048576:=by
 unfold rV;split
 ·rename_i hg
  have h1:(wd (vald 10 ((ztl bs).map dv))).length≤1048576:=by
   refine Nat.le_trans (len_wd_dv (base:=10) (by decide) (by decide) hg.2) (Nat.le_trans ?_ h)
   unfold ztl
   split
   ·rw [List.length_drop];omega
   ·split
    ·rw [List.length_drop];omega
    ·split
     ·rw [List.length_drop];omega
     ·exact Nat.le_refl _
  unfold zval;split
  ·rw [ln_neg,ln_nat];exact h1
  ·rw [ln_nat];exact h1
 ·exact Nat.zero_le _
theorem j_zint_Floor {w:World}{b:Nat}(hb:b≤w.heap.size){s:Bool}{A:Option Addr}{n cap:Nat}{x:Int}(hx:Zi w s A n cap x) (la:n≤1048576){t:Bool}{B:Option Addr}{m cap':Nat}{y:Int}(hy:Zi w t B m cap' y) (lb:m≤1048576):
  Calls Tryz.prog 123 #[.agg #[.bool s,.slice A n cap],.agg #[.bool t,.slice B m cap']] w (Gv w (T3 (ZR b (qF x y)) (ZR b (rF x y)) (Is (.int .i64 (eZ y))))):=by
 by_cases h0:y=0
 ·simp only [qF,rF,eZ,if_pos h0]
  exact g_zint_FloorD_bad hb hx (Nat.le_trans la (by decide)) hy (Nat.le_trans lb (by decide)) h0
 ·refine (g_zint_FloorD hb hx (Nat.le_trans la (by decide)) hy (Nat.le_trans lb (by decide)) h0).mono ?_
  rintro e w' ⟨q,r,hf,h⟩
  obtain⟨rfl,rfl⟩:=flo_uniq5 h0 hf (flo_spec5 h0)
  simp only [eZ,if_neg h0]
  exact h
theorem j_zint_Exact {w:World}{b:Nat}(hb:b≤w.heap.size){s:Bool}{A:Option Addr}{n cap:Nat}{x:Int}(hx:Zi w s A n cap x) (la:n≤1048576){t:Bool}{B:Option Addr}{m cap':Nat}{y:Int}(hy:Zi w t B m cap' y) (lb:m≤1048576):
  Calls Tryz.prog 125 #[.agg #[.bool s,.slice A n cap],.agg #[.bool t,.slice B m cap']] w (Gv w (T2 (ZR b (vX x y)) (Is (.int .i64 (eX x y))))):=by
 by_cases h0:y=0
 ·simp only [vX,eX,if_pos h0]
  exact g_zint_Exact_bad hb hx (Nat.le_trans la (by decide)) hy (Nat.le_trans lb (by decide)) h0
 ·by_cases hk:x.natAbs%y.natAbs=0
  ·simp only [vX,eX,if_neg h0,if_pos hk]
   exact g_zint_Exact_ok hb hx (Nat.le_trans la (by decide)) hy (Nat.le_trans lb (by decide)) h0 hk
  ·simp only [vX,eX,if_neg h0,if_neg hk]
   exact g_zint_Exact_not hb hx (Nat.le_trans la (by decide)) hy (Nat.le_trans lb (by decide)) h0 hk
theorem j_zint_Pow {w:World}{b:Nat}(hb:b≤w.heap.size){s:Bool}{A:Option Addr}{n cap:Nat}{x:Int}(hx:Zi w s A n cap x) (la:n≤1048576){k:Int}:
  Calls Tryz.prog 61 #[.agg #[.bool s,.slice A n cap],.int .i64 k] w (Gv w (T2 (ZR b (vP x k)) (Is (.int .i64 (eP k))))):=by
 by_cases h0:k<0
 ·simp only [vP,eP,if_pos h0]
  exact g_zint_Pow_neg hb hx la h0
 ·by_cases h1:256<k
  ·simp only [vP,eP,if_neg h0,if_pos h1]
   exact g_zint_Pow_big hb hx la h1
  ·simp only [vP,eP,if_neg h0,if_neg h1]
   obtain⟨j,rfl⟩:=Int.eq_ofNat_of_zero_le (show 0≤k by omega)
   exact g_zint_Pow hb hx la (by omega)
theorem j_zint_Dot {w:World}{b:Nat}(hb:b≤w.heap.size){A C:Option Addr}{n m cap cap':Nat}{zs ys:List Int}{ms ms2:List Nat}(hl:Zl w A n cap zs ms) (hn:n≤1048576) (hmb:∀i,ms.getD i 0≤1048576) (hl2:Zl w C m cap' ys ms2) (hmb2:∀i,ms2.getD i 0≤1048576):
  Calls Tryz.prog 60 #[.slice A n cap,.slice C m cap'] w (Gv w (T2 (ZR b (vD zs ys n m)) (Is (.int .i64 (eD n m))))):=by
 by_cases h0:n=m
 ·subst h0
  simp only [vD,eD,if_true]
  exact g_zint_Dot hb hl hn hmb hl2 hmb2
 ·simp only [vD,eD,if_neg h0]
  exact g_zint_Dot_bad hb hl hn hmb hl2 hmb2 h0
theorem j_ref5_Pow {w:World}{b:Nat}(hb:b≤w.heap.size){s:Bool}{A:Option Addr}{n cap:Nat}{x:Int}(hx:Zi w s A n cap x) (la:n≤1048576){k:Int}:
  Calls Tryz.prog 46 #[.agg #[.bool s,.slice A n cap],.int .i64 k] w (Gv w (T2 (ZR b (vP x k)) (Is (.int .i64 (eP k))))):=by
 by_cases h0:k<0
 ·simp only [vP,eP,if_pos h0]
  exact g_ref5_Pow_neg hb hx la h0
 ·by_cases h1:256<k
  ·simp only [vP,eP,if_neg h0,if_pos h1]
   exact g_ref5_Pow_big hb hx la h1
  ·simp only [vP,eP,if_neg h0,if_neg h1]
   obtain⟨j,rfl⟩:=Int.eq_ofNat_of_zero_le (show 0≤k by omega)
   exact g_ref5_Pow hb hx la (by omega)
theorem j_ref5_Dot {w:World}{b:Nat}(hb:b≤w.heap.size){A C:Option Addr}{n m cap cap':Nat}{zs ys:List Int}{ms ms2:List Nat}(hl:Zl w A n cap zs ms) (hn:n≤1048576) (hmb:∀i,ms.getD i 0≤1048576) (hl2:Zl w C m cap' ys ms2) (hmb2:∀i,ms2.getD i 0≤1048576):
  Calls Tryz.prog 45 #[.slice A n cap,.slice C m cap'] w (Gv w (T2 (ZR b (vD zs ys n m)) (Is (.int .i64 (eD n m))))):=by
 by_cases h0:n=m
 ·subst h0
  simp only [vD,eD,if_true]
  exact g_ref5_Dot hb hl hn hmb hl2 hmb2
 ·simp only [vD,eD,if_neg h0]
  exact g_ref5_Dot_bad hb hl hn hmb hl2 hmb2 h0
theorem j_zint_Small {w:World}{s:Bool}{A:Option Addr}{n cap:Nat}{x:Int}(hx:Zi w s A n cap x) (la:n≤1048576):Calls Tryz.prog 50 #[.agg #[.bool s,.slice A n cap]] w (Gv w (T2 (Is (.int .i64 (smV x))) (Is (.int .i64 (smE x))))):=by
 refine (zint_Small hx (Nat.le_trans la (by decide))).mono ?_
 rintro e w' ⟨v,er,rfl,h,hx'⟩
 obtain⟨h1,h2⟩:=h.out
 by_cases hr: -9223372036854775808≤x∧x≤9223372036854775807
 ·obtain⟨rfl,rfl⟩:=h1 hr
  exact⟨_,rfl,⟨_,_,rfl,(by unfold smV;rw [if_pos hr];rfl),(by unfold smE;rw [if_pos hr];rfl)⟩,hx'⟩
 ·obtain⟨rfl,rfl⟩:=h2 hr
  exact⟨_,rfl,⟨_,_,rfl,(by unfold smV;rw [if_neg hr];rfl),(by unfold smE;rw [if_neg hr];rfl)⟩,hx'⟩
theorem j_zint_Read {w:World}{b:Nat}(hb:b≤w.heap.size){bs:List Nat}(hbs:∀b,b∈bs→b<256) (hlen:bs.length≤1048576):Calls Tryz.prog 128 #[.string (strB bs)] w (Gv w (T2 (ZR b (rV bs)) (Is (.int .i64 (rE bs))))):=by
 by_cases hg:Good 10 (ztl bs)
 ·simp only [rV,rE,if_pos hg]
  exact rx_zRead hb hbs (Nat.le_trans hlen (by decide)) rfl hg rfl
 ·simp only [rV,rE,if_neg hg]
  refine (rx_zRead_bad hbs (Nat.le_trans hlen (by decide)) rfl hg).mono (Gv.imp (T2.imp ?_ Is.imp))
  rintro v w' rfl
  exact⟨_,_,_,_,rfl,Zr.zero⟩
theorem aggOp5:AggT Tryz.prog 29 12:=⟨fun _=>by kernel_rfl,fun _=>by kernel_rfl⟩
theorem aggAns5:AggT Tryz.prog 33 9:=⟨fun _=>by kernel_rfl,fun _=>by kernel_rfl⟩
def Op5 (w:World) (k x y z nn mm:Int) (bs:List Nat) (zs ys:List Int) (n1 n2:Nat) (v:Value):Prop:=
 ∃sa Aa na ca sb Ab nb cb sd Ad nd cd A c1 ms C c2 ms2,v= .agg #[.int .i64 k,.bool sa,.slice Aa na ca,.bool sb,.slice Ab nb cb,.bool sd,.slice Ad nd cd,.int .i64 nn,.int .i64 mm,.string (strB bs),.slice A n1 c1,.slice C n2 c2]∧
  Zi w sa Aa na ca x∧na≤1048576∧Zi w sb Ab nb cb y∧nb≤1048576∧Zi w sd Ad nd cd z∧nd≤1048576∧Zl w A n1 c1 zs ms∧(∀i,ms.getD i 0≤1048576)∧Zl w C n2 c2 ys ms2∧∀i,ms2.getD i 0≤1048576
theorem Op5.ext {w w':World}{k x y z nn mm:Int}{bs:List Nat}{zs ys:List Int}{n1 n2:Nat}{v:Value}(h:Op5 w k x y z nn mm bs zs ys n1 n2 v) (e:Ext w w'):Op5 w' k x y z nn mm bs zs ys n1 n2 v:=by
 obtain⟨sa,Aa,na,ca,sb,Ab,nb,cb,sd,Ad,nd,cd,A,c1,ms,C,c2,ms2,rfl,h1,h2,h3,h4,h5,h6,h7,h8,h9,h10⟩:=h
 exact⟨_,_,_,_,_,_,_,_,_,_,_,_,_,_,_,_,_,_,rfl,h1.ext e,h2,h3.ext e,h4,h5.ext e,h6,h7.ext e,h8,h9.ext e,h10⟩
structure AnsT where
 X:Int
 Y:Int
 V:Int
 P:Int
 Q:Int
 S:List Nat
 E:Int
def AnsR (b:Nat) (t:AnsT) (v:Value) (w:World):Prop:=
 ∃s A n c s' A' n' c',v= .agg #[.bool s,.slice A n c,.bool s',.slice A' n' c',.int .i64 t.V,.int .i64 t.P,.int .i64 t.Q,.string (strB t.S),.int .i64 t.E]∧Zr w b s A n c t.X∧Zr w b s' A' n' c' t.Y∧ln t.X≤1099511627776∧ln t.Y≤1099511627776∧∀c,c∈t.S→c<256
theorem AnsR.of {b:Nat}{t t':AnsT}{v:Value}{w:World}(h:t'=t) (k:AnsR b t v w):AnsR b t' v w:=h▸k
theorem AnsR.imp {b b':Nat}{t:AnsT}(h:b'≤b):∀v w,AnsR b t v w→AnsR b' t v w:=fun _ _ ⟨s,A,n,c,s',A',n',c',h1,h2,h3,h4⟩=>⟨s,A,n,c,s',A',n',c',h1,h2.mono h,h3.mono h,h4⟩
theorem txtZ_lt {x:Int}:∀c,c∈txtZ x→c<256:=by
 intro c hc
 unfold txtZ at hc
 split at hc
 ·rcases List.mem_append.1 hc with h | h
  ·rw [List.mem_singleton] at h;omega
  ·exact txtN_lt (by decide) (by decide) c h
 ·exact txtN_lt (by decide) (by decide) c hc
noncomputable def spec5b (k x y:Int) (bs:List Nat):AnsT:=
 if k=14 then ⟨qT x y,rT x y,0,0,0,[],eZ y⟩ else if k=15 then ⟨qF x y,rF x y,0,0,0,[],eZ y⟩ else if k=16 then ⟨qE x y,rEu x y,0,0,0,[],eZ y⟩ else if k=17 then ⟨vX x y,0,0,0,0,[],eX x y⟩ else
 if k=18 then ⟨rEu x y,0,0,0,0,[],eZ y⟩ else if k=19 then ⟨vS x y,0,0,0,0,[],eZ y⟩ else if k=20 then ⟨0,0,0,0,0,txtZ x,0⟩ else if k=21 then ⟨rV bs,0,0,0,0,[],rE bs⟩ else ⟨0,0,0,0,0,[],0⟩
noncomputable def spec5 (k x y z nn mm:Int) (bs:List Nat) (zs ys:List Int) (n1 n2:Nat):AnsT:=
 if 14≤k then spec5b k x y bs else if k=1 then ⟨x,0,0,0,0,[],0⟩ else if k=2 then ⟨mm,0,0,0,0,[],0⟩ else if k=3 then ⟨0,0,smV x,0,0,[],smE x⟩ else if k=4 then ⟨0,0,scmp x 0,scmp x y,cmp3 (Int.natAbs x) (Int.natAbs y),[],0⟩ else
 if k=5 then ⟨-x,0,0,0,0,[],0⟩ else if k=6 then ⟨(Int.natAbs x:Int),0,0,0,0,[],0⟩ else if k=7 then ⟨x+y,0,0,0,0,[],0⟩ else if k=8 then ⟨x-y,0,0,0,0,[],0⟩ else if k=9 then ⟨x*y,0,0,0,0,[],0⟩ else if k=10 then ⟨x*y+z,0,0,0,0,[],0⟩ else
 if k=11 then ⟨sumL ys,0,0,0,0,[],0⟩ else if k=12 then ⟨vD zs ys n1 n2,0,0,0,0,[],eD n1 n2⟩ else if k=13 then ⟨vP x nn,0,0,0,0,[],eP nn⟩ else ⟨0,0,0,0,0,[],0⟩
def Op5o (w0:World) (b:Nat) (k x y z nn mm:Int) (bs:List Nat) (zs ys:List Int) (n1 n2:Nat) (v:Value) (w:World):Prop:=
 ∃sa Aa na ca sb Ab nb cb sd Ad nd cd A C,v= .agg #[.int .i64 k,.bool sa,.slice Aa na ca,.bool sb,.slice Ab nb cb,.bool sd,.slice Ad nd cd,.int .i64 nn,.int .i64 mm,.string (strB bs),.slice A n1 n1,.slice C n2 n2]∧
  Zo w b sa Aa na ca x∧na≤1048576∧Zo w b sb Ab nb cb y∧nb≤1048576∧Zo w b sd Ad nd cd z∧nd≤1048576∧Lz (some w0) 1048576 b w b A n1 n1 zs∧Lz (some w0) 1048576 b w b C n2 n2 ys
theorem Lz.updTT {m:Option World}{K b lb:Nat}{w w':World}{A:Option Addr}{n cap g:Nat}{zs:List Int}{T:TypeId}{us:List Value}(h:Lz m K b w lb A n cap zs) (hb:Bk w g T us) (x:Upd g w w') (hT:67≠T:=by decide) (hT2:26≠T:=by decide):Lz m K b w' lb A n cap zs:=by
 obtain⟨es,h1,h2,h3,h4⟩:=h
 exact⟨es,h1.updT hb hT2 x,h2,h3,fun i hi=>⟨(h4 i hi).1,(h4 i hi).2.updT hb x hT⟩⟩
set_option maxHeartbeats 8000000 in
set_option maxRecDepth 20000 in
theorem g_law5_copiedI {w:World}{k nn mm:Int}{bs:List Nat}{A C:Option Addr}{n1 c1 n2 c2:Nat}{zs ys:List Int}{ms ms2:List Nat}{sa:Bool}{Aa:Option Addr}{na ca:Nat}{x:Int}{sb:Bool}{Ab:Option Addr}{nb cb:Nat}{y:Int}{sd:Bool}{Ad:Option Addr}{nd cd:Nat}{z:Int}(hx:Zi w sa Aa na ca x) (la:na≤1048576) (hy:Zi w sb Ab nb cb y) (lb:nb≤1048576) (hz:Zi w sd Ad nd cd z) (ld:nd≤1048576) (hl:Zl w A n1 c1 zs ms) (hmb:∀i,ms.getD i 0≤1048576) (hl2:Zl w C n2 c2 ys ms2) (hmb2:∀i,ms2.getD i 0≤1048576) (hn1:n1≤1048576) (hn2:n2≤1048576):
    Calls Tryz.prog 8 #[.agg #[.int .i64 k,.bool sa,.slice Aa na ca,.bool sb,.slice Ab nb cb,.bool sd,.slice Ad nd cd,.int .i64 nn,.int .i64 mm,.string (strB bs),.slice A n1 c1,.slice C n2 c2]] w (Gv w (Op5o w w.heap.size k x y z nn mm bs zs ys n1 n2)):=by
 have Lx:ln x≤1048576:=Nat.le_trans hx.ln la
 have Ly:ln y≤1048576:=Nat.le_trans hy.ln lb
 have Lz:ln z≤1048576:=Nat.le_trans hz.ln ld
 have hln1:∀i,ln (zs.getD i 0)≤1048576:=ln_getD5 hl hmb
 have hln2:∀i,ln (ys.getD i 0)≤1048576:=ln_getD5 hl2 hmb2
 refine sx_enter Tryz.func8 rfl (n:=27) rfl (bq rfl) (args:= [.agg #[.int .i64 k,.bool sa,.slice Aa na ca,.bool sb,.slice Ab nb cb,.bool sd,.slice Ad nd cd,.int .i64 nn,.int .i64 mm,.string (strB bs),.slice A n1 c1,.slice C n2 c2]]) (cw_keep [(0,.agg #[.int .i64 k,.bool sa,.slice Aa na ca,.bool sb,.slice Ab nb cb,.bool sd,.slice Ad nd cd,.int .i64 nn,.int .i64 mm,.string (strB bs),.slice A n1 c1,.slice C n2 c2])] ⟨rfl,trivial⟩ (sr (bx [.int .i64 k,.bool sa,.slice Aa na ca,.bool sb,.slice Ab nb cb,.bool sd,.slice Ad nd cd,.int .i64 nn,.int .i64 mm,.string (strB bs),.slice A n1 c1,.slice C n2 c2] (Ext.refl w) rfl rfl rfl fun g1 v2 hb4 ge5 e3 hw1=>(alq [I0,F0,S0,F0,S0,F0,S0,I0,I0,.string ⟨#[]⟩,S0,S0] hw1 hb4.lt (fun _=>by kernel_rfl) rfl fun g6 v7 hb9 ge10 q11 e8 hw2=>(ne_ (cw_seq ?_))))))
 refine cw_draw mix 24 [] [Is (.pointer (some ⟨g1,0,none⟩)),Is (.int .i64 k),Is (.pointer (some ⟨g1,1,none⟩)),Is (.agg #[.bool sa,.slice Aa na ca]),ZOR w.heap.size sa na x,Is (.pointer (some ⟨g1,3,none⟩)),Is (.agg #[.bool sb,.slice Ab nb cb]),ZOR w.heap.size sb nb y,Is (.pointer (some ⟨g1,5,none⟩)),Is (.agg #[.bool sd,.slice Ad nd cd]),ZOR w.heap.size sd nd z,Is (.pointer (some ⟨g1,7,none⟩)),Is (.int .i64 nn),Is (.pointer (some ⟨g1,8,none⟩)),Is (.int .i64 mm),Is (.pointer (some ⟨g1,9,none⟩)),Is (.string (strB bs)),Is (.pointer (some ⟨g1,10,none⟩)),Is (.slice A n1 c1),LOR w w.heap.size n1 zs,Is (.pointer (some ⟨g1,11,none⟩)),Is (.slice C n2 c2),LOR w w.heap.size n2 ys,Op5o w w.heap.size k x y z nn mm bs zs ys n1 n2] [[],[0],[],[2],[3],[],[5],[6],[],[8],[9],[],[11],[],[13],[],[15],[],[17],[18],[],[20],[21],[1,4,7,10,12,14,16,19,22]] [[],[0],[],[2],[2,3],[],[5],[2,3,4,5,6],[],[8],[2,3,4,5,6,7,8,9],[],[11],[],[13],[],[15],[],[17],[2,3,4,5,6,7,8,9,10,17,18],[],[20],[2,3,4,5,6,7,8,9,10,17,18,19,20,21],[0,1,2,3,4,5,6,7,8,9,10,11,12,13,14,15,16,17,18,19,20,21,22],[0,1,2,3,4,5,6,7,8,9,10,11,12,13,14,15,16,17,18,19,20,21,22,23]] rfl
  (obs_cons rfl rfl (hob rfl rfl ?_) (obs_cons rfl rfl (hob rfl rfl ?_) (obs_cons rfl rfl (hob rfl rfl ?_) (obs_cons rfl rfl (hob rfl rfl ?_) (obs_cons rfl rfl (hob rfl rfl ?_) (obs_cons rfl rfl (hob rfl rfl ?_) (obs_cons rfl rfl (hob rfl rfl ?_) (obs_cons rfl rfl (hob rfl rfl ?_) (obs_cons rfl rfl (hob rfl rfl ?_) (obs_cons rfl rfl (hob rfl rfl ?_) (obs_cons rfl rfl (hob rfl rfl ?_) (obs_cons rfl rfl (hob rfl rfl ?_) (obs_cons rfl rfl (hob rfl rfl ?_) (obs_cons rfl rfl (hob rfl rfl ?_) (obs_cons rfl rfl (hob rfl rfl ?_) (obs_cons rfl rfl (hob rfl rfl ?_) (obs_cons rfl rfl (hob rfl rfl ?_) (obs_cons rfl rfl (hob rfl rfl ?_) (obs_cons rfl rfl (hob rfl rfl ?_) (obs_cons rfl rfl (hob rfl rfl ?_) (obs_cons rfl rfl (hob rfl rfl ?_) (obs_cons rfl rfl (hob rfl rfl ?_) (obs_cons rfl rfl (hob rfl rfl ?_) (obs_cons rfl rfl (hob rfl rfl ?_) obs_nil)))))))))))))))))))))))) ?_
 · 
  exact fun _ _=>deps_nil (pf g1 0 rfl (by kernel_rfl) (pi_done rfl (Ext.refl _) rfl))
 · 
  exact fun _ e21=>dk rfl rfl (deps_nil (wl_load rfl rfl (load_cell (fun _=>by kernel_rfl) (hb4.ext (e8.trans e21)) rfl) (by decide) (pi_done rfl (Ext.refl _) rfl)))
 · 
  exact fun _ _=>deps_nil (pf g1 1 rfl (by kernel_rfl) (pi_done rfl (Ext.refl _) rfl))
 · 
  exact fun _ e30=>dk rfl rfl (deps_nil (lo aggInt (hb4.ext (e8.trans e30)) [.bool sa,.slice Aa na ca] rfl rfl rfl (pi_done rfl (Ext.refl _) rfl)))
 · 
  intro v36 e37
  have hw3:=hw2.trans e37
  refine dk rfl rfl (deps_nil (cl (vs:= [.agg #[.bool sa,.slice Aa na ca]]) hw3 (g_law5_one hw3.size (hx.ext hw3) (lx_ la rfl)) rfl (by kernel_rfl) fun xr45 v43 r45 e44 hw4=>?_))
  obtain⟨Az46,cz46,rfl,zo46⟩:=r45
  exact pi_done rfl e44 ⟨_,_,rfl,zo46⟩
 · 
  exact fun _ _=>deps_nil (pf g1 3 rfl (by kernel_rfl) (pi_done rfl (Ext.refl _) rfl))
 · 
  exact fun _ e50=>dk rfl rfl (deps_nil (lo aggInt (hb4.ext (e8.trans e50)) [.bool sb,.slice Ab nb cb] rfl rfl rfl (pi_done rfl (Ext.refl _) rfl)))
 · 
  intro v56 e57
  have hw3:=hw2.trans e57
  refine dk rfl rfl (deps_nil (cl (vs:= [.agg #[.bool sb,.slice Ab nb cb]]) hw3 (g_law5_one hw3.size (hy.ext hw3) (lx_ lb rfl)) rfl (by kernel_rfl) fun xr65 v63 r65 e64 hw4=>?_))
  obtain⟨Az66,cz66,rfl,zo66⟩:=r65
  exact pi_done rfl e64 ⟨_,_,rfl,zo66⟩
 · 
  exact fun _ _=>deps_nil (pf g1 5 rfl (by kernel_rfl) (pi_done rfl (Ext.refl _) rfl))
 · 
  exact fun _ e70=>dk rfl rfl (deps_nil (lo aggInt (hb4.ext (e8.trans e70)) [.bool sd,.slice Ad nd cd] rfl rfl rfl (pi_done rfl (Ext.refl _) rfl)))
 · 
  intro v76 e77
  have hw3:=hw2.trans e77
  refine dk rfl rfl (deps_nil (cl (vs:= [.agg #[.bool sd,.slice Ad nd cd]]) hw3 (g_law5_one hw3.size (hz.ext hw3) (lx_ ld rfl)) rfl (by kernel_rfl) fun xr85 v83 r85 e84 hw4=>?_))
  obtain⟨Az86,cz86,rfl,zo86⟩:=r85
  exact pi_done rfl e84 ⟨_,_,rfl,zo86⟩
 · 
  exact fun _ _=>deps_nil (pf g1 7 rfl (by kernel_rfl) (pi_done rfl (Ext.refl _) rfl))
 · 
  exact fun _ e90=>dk rfl rfl (deps_nil (wl_load rfl rfl (load_cell (fun _=>by kernel_rfl) (hb4.ext (e8.trans e90)) rfl) (by decide) (pi_done rfl (Ext.refl _) rfl)))
 · 
  exact fun _ _=>deps_nil (pf g1 8 rfl (by kernel_rfl) (pi_done rfl (Ext.refl _) rfl))
 · 
  exact fun _ e99=>dk rfl rfl (deps_nil (wl_load rfl rfl (load_cell (fun _=>by kernel_rfl) (hb4.ext (e8.trans e99)) rfl) (by decide) (pi_done rfl (Ext.refl _) rfl)))
 · 
  exact fun _ _=>deps_nil (pf g1 9 rfl (by kernel_rfl) (pi_done rfl (Ext.refl _) rfl))
 · 
  exact fun _ e108=>dk rfl rfl (deps_nil (wl_load rfl rfl (load_cell (fun _=>by kernel_rfl) (hb4.ext (e8.trans e108)) rfl) (by decide) (pi_done rfl (Ext.refl _) rfl)))
 · 
  exact fun _ _=>deps_nil (pf g1 10 rfl (by kernel_rfl) (pi_done rfl (Ext.refl _) rfl))
 · 
  exact fun _ e117=>dk rfl rfl (deps_nil (wl_load rfl rfl (load_cell (fun _=>by kernel_rfl) (hb4.ext (e8.trans e117)) rfl) (by decide) (pi_done rfl (Ext.refl _) rfl)))
 · 
  intro v123 e124
  have hw3:=hw2.trans e124
  refine dk rfl rfl (deps_nil (cl (vs:= [.slice A n1 c1]) hw3 (g_law5_many (w0:=w) hw3.size hw3 (hl.ext hw3) hn1 hmb) rfl (by kernel_rfl) fun xr132 v130 r132 e131 hw4=>?_))
  obtain⟨Al133,rfl,zl133⟩:=r132
  exact pi_done rfl e131 ⟨_,rfl,zl133⟩
 · 
  exact fun _ _=>deps_nil (pf g1 11 rfl (by kernel_rfl) (pi_done rfl (Ext.refl _) rfl))
 · 
  exact fun _ e137=>dk rfl rfl (deps_nil (wl_load rfl rfl (load_cell (fun _=>by kernel_rfl) (hb4.ext (e8.trans e137)) rfl) (by decide) (pi_done rfl (Ext.refl _) rfl)))
 · 
  intro v143 e144
  have hw3:=hw2.trans e144
  refine dk rfl rfl (deps_nil (cl (vs:= [.slice C n2 c2]) hw3 (g_law5_many (w0:=w) hw3.size hw3 (hl2.ext hw3) hn2 hmb2) rfl (by kernel_rfl) fun xr152 v150 r152 e151 hw4=>?_))
  obtain⟨Al153,rfl,zl153⟩:=r152
  exact pi_done rfl e151 ⟨_,rfl,zl153⟩
 · 
  intro v154 e155
  refine dk rfl rfl (deps_cons rfl rfl fun x161 y162 h163 e164 f165=>?_)
  obtain⟨Az166,cz166,rfl,zo166⟩:=h163
  have zo166:=zo166.ext f165
  refine deps_cons rfl rfl fun x167 y168 h169 e170 f171=>?_
  obtain⟨Az172,cz172,rfl,zo172⟩:=h169
  have zo172:=zo172.ext f171
  refine deps_cons rfl rfl fun x173 y174 h175 e176 f177=>?_
  obtain⟨Az178,cz178,rfl,zo178⟩:=h175
  have zo178:=zo178.ext f177
  refine dk rfl rfl (dk rfl rfl (dk rfl rfl (deps_cons rfl rfl fun x194 y195 h196 e197 f198=>?_)))
  obtain⟨Al199,rfl,zl199⟩:=h196
  have zl199:=zl199.ext f198
  refine deps_cons rfl rfl fun x200 y201 h202 e203 f204=>?_
  obtain⟨Al205,rfl,zl205⟩:=h202
  have zl205:=zl205.ext f204
  refine deps_nil (pu (v:= .agg #[.int .i64 k,.bool sa,.slice Az166 na cz166,.bool sb,.slice Az172 nb cz172,.bool sd,.slice Az178 nd cz178,.int .i64 nn,.int .i64 mm,.string (strB bs),.slice Al199 n1 n1,.slice Al205 n2 n2]) rfl (by kernel_rfl) ?_)
  exact pi_done rfl (Ext.refl _) ⟨_,_,_,_,_,_,_,_,_,_,_,_,_,_,rfl,zo166,(lx_ la rfl),zo172,(lx_ lb rfl),zo178,(lx_ ld rfl),zl199,zl205⟩
 · 
  intro v206 e207
  have hw3:=hw2.trans e207
  refine dk rfl rfl (dk rfl rfl (dk rfl rfl (dk rfl rfl (deps_cons rfl rfl fun x228 y229 h230 e231 f232=>?_))))
  obtain⟨Az233,cz233,rfl,zo233⟩:=h230
  have zo233:=zo233.ext f232
  refine dk rfl rfl (dk rfl rfl (deps_cons rfl rfl fun x244 y245 h246 e247 f248=>?_))
  obtain⟨Az249,cz249,rfl,zo249⟩:=h246
  have zo249:=zo249.ext f248
  refine dk rfl rfl (dk rfl rfl (deps_cons rfl rfl fun x260 y261 h262 e263 f264=>?_))
  obtain⟨Az265,cz265,rfl,zo265⟩:=h262
  have zo265:=zo265.ext f264
  refine dk rfl rfl (dk rfl rfl (dk rfl rfl (dk rfl rfl (dk rfl rfl (dk rfl rfl (dk rfl rfl (dk rfl rfl (deps_cons rfl rfl fun x306 y307 h308 e309 f310=>?_))))))))
  obtain⟨Al311,rfl,zl311⟩:=h308
  have zl311:=zl311.ext f310
  refine dk rfl rfl (dk rfl rfl (deps_cons rfl rfl fun x322 y323 h324 e325 f326=>?_))
  obtain⟨Al327,rfl,zl327⟩:=h324
  have zl327:=zl327.ext f326
  refine deps_cons rfl rfl fun x328 y329 h330 e331 f332=>?_
  obtain⟨sa333,Aa333,na333,ca333,sb333,Ab333,nb333,cb333,sd333,Ad333,nd333,cd333,B1333,B2333,rfl,za333,la333,zb333,lb333,zd333,ld333,y1333,y2333⟩:=h330
  have za333:=za333.ext f332
  have zb333:=zb333.ext f332
  have zd333:=zd333.ext f332
  have y1333:=y1333.ext f332
  have y2333:=y2333.ext f332
  refine deps_nil ?_
  have hb335:=(hb9.ext e207)
  refine so aggOp5 hb335 [.int .i64 k,.bool sa333,.slice Aa333 na333 ca333,.bool sb333,.slice Ab333 nb333 cb333,.bool sd333,.slice Ad333 nd333 cd333,.int .i64 nn,.int .i64 mm,.string (strB bs),.slice B1333 n1 n1,.slice B2333 n2 n2] hw3 ge10 rfl rfl rfl rfl fun v334 hb336 u337 hw4=>(wl_nil (eo_np (eo_then (cw_ret (eo_ret [.agg #[.int .i64 k,.bool sa333,.slice Aa333 na333 ca333,.bool sb333,.slice Ab333 nb333 cb333,.bool sd333,.slice Ad333 nd333 cd333,.int .i64 nn,.int .i64 mm,.string (strB bs),.slice B1333 n1 n1,.slice B2333 n2 n2]] rfl ⟨⟨_,rfl,load_agg aggOp5 hb336 [.int .i64 k,.bool sa333,.slice Aa333 na333 ca333,.bool sb333,.slice Ab333 nb333 cb333,.bool sd333,.slice Ad333 nd333 cd333,.int .i64 nn,.int .i64 mm,.string (strB bs),.slice B1333 n1 n1,.slice B2333 n2 n2] rfl (bq rfl) rfl⟩,trivial⟩ ?_)))))
  exact⟨_,rfl,⟨_,_,_,_,_,_,_,_,_,_,_,_,_,_,rfl,(za333.updT hb335 u337),(lx_ la333 rfl),(zb333.updT hb335 u337),(lx_ lb333 rfl),(zd333.updT hb335 u337),(lx_ ld333 rfl),(y1333.updTT hb335 u337),(y2333.updTT hb335 u337)⟩,hw4⟩
theorem g_law5_copied {w:World}{k x y z nn mm:Int}{bs:List Nat}{zs ys:List Int}{n1 n2:Nat}{v:Value}(h:Op5 w k x y z nn mm bs zs ys n1 n2 v) (hn1:n1≤1048576) (hn2:n2≤1048576):
  Calls Tryz.prog 8 #[v] w (Gv w (fun v' w'=>Op5 w' k x y z nn mm bs zs ys n1 n2 v')):=by
 obtain⟨sa,Aa,na,ca,sb,Ab,nb,cb,sd,Ad,nd,cd,A,c1,ms,C,c2,ms2,rfl,h1,h2,h3,h4,h5,h6,h7,h8,h9,h10⟩:=h
 refine (g_law5_copiedI h1 h2 h3 h4 h5 h6 h7 h8 h9 h10 hn1 hn2).mono ?_
 rintro e w' ⟨v,rfl,⟨sa,Aa,na,ca,sb,Ab,nb,cb,sd,Ad,nd,cd,A,C,rfl,k1,k2,k3,k4,k5,k6,k7,k8⟩,hx⟩
 obtain⟨ms,m1,m2⟩:=k7.zl hx
 obtain⟨ms2,m3,m4⟩:=k8.zl hx
 exact⟨_,rfl,⟨_,_,_,_,_,_,_,_,_,_,_,_,_,_,_,_,_,_,rfl,k1.zi,k2,k3.zi,k4,k5.zi,k6,m1,m2,m3,m4⟩,hx⟩
set_option maxHeartbeats 8000000 in
set_option maxRecDepth 20000 in
theorem g_law5_matchesI {w:World}{t:AnsT}{b1 b2:Nat}{sp tp:Bool}{Ap Bp:Option Addr}{np cp mp dp:Nat}{sq tq:Bool}{Aq Bq:Option Addr}{nq cq mq dq:Nat}(zxp:Zr w b1 sp Ap np cp t.X) (zyp:Zr w b1 tp Bp mp dp t.Y) (zxq:Zr w b2 sq Aq nq cq t.X) (zyq:Zr w b2 tq Bq mq dq t.Y) (lx:ln t.X≤1099511627776) (ly:ln t.Y≤1099511627776) (lt:∀c,c∈t.S→c<256):
    Calls Tryz.prog 11 #[.agg #[.bool sp,.slice Ap np cp,.bool tp,.slice Bp mp dp,.int .i64 t.V,.int .i64 t.P,.int .i64 t.Q,.string (strB t.S),.int .i64 t.E],.agg #[.bool sq,.slice Aq nq cq,.bool tq,.slice Bq mq dq,.int .i64 t.V,.int .i64 t.P,.int .i64 t.Q,.string (strB t.S),.int .i64 t.E]] w (Gv w (Is (.bool true))):=by
 refine sx_enter Tryz.func11 rfl (n:=52) rfl (bq rfl) (args:= [.agg #[.bool sp,.slice Ap np cp,.bool tp,.slice Bp mp dp,.int .i64 t.V,.int .i64 t.P,.int .i64 t.Q,.string (strB t.S),.int .i64 t.E],.agg #[.bool sq,.slice Aq nq cq,.bool tq,.slice Bq mq dq,.int .i64 t.V,.int .i64 t.P,.int .i64 t.Q,.string (strB t.S),.int .i64 t.E]]) (cw_keep [(0,.agg #[.bool sp,.slice Ap np cp,.bool tp,.slice Bp mp dp,.int .i64 t.V,.int .i64 t.P,.int .i64 t.Q,.string (strB t.S),.int .i64 t.E]),(1,.agg #[.bool sq,.slice Aq nq cq,.bool tq,.slice Bq mq dq,.int .i64 t.V,.int .i64 t.P,.int .i64 t.Q,.string (strB t.S),.int .i64 t.E])] ⟨rfl,rfl,trivial⟩ (sr (bx [.bool sp,.slice Ap np cp,.bool tp,.slice Bp mp dp,.int .i64 t.V,.int .i64 t.P,.int .i64 t.Q,.string (strB t.S),.int .i64 t.E] (Ext.refl w) rfl rfl rfl fun g1 v2 hb4 ge5 e3 hw1=>(bxq [.bool sq,.slice Aq nq cq,.bool tq,.slice Bq mq dq,.int .i64 t.V,.int .i64 t.P,.int .i64 t.Q,.string (strB t.S),.int .i64 t.E] hw1 hb4.lt rfl rfl rfl fun g6 v7 hb9 ge10 q11 e8 hw2=>(mv 1 rfl (ne_ (sr (pf g1 0 rfl (by kernel_rfl) (lo aggInt (hb4.ext e8) [.bool sp,.slice Ap np cp] rfl rfl rfl (pf g6 0 rfl (by kernel_rfl) (lo aggInt hb9 [.bool sq,.slice Aq nq cq] rfl rfl rfl (cl (vs:= [.agg #[.bool sp,.slice Ap np cp],.agg #[.bool sq,.slice Aq nq cq]]) hw2 (g_law5_alike (zxp.ext (e3.trans e8)) (zxp.le (lx_ lx rfl)) (zxq.ext (e3.trans e8)) (zxq.le (lx_ lx rfl))) rfl (by kernel_rfl) fun xr14 v12 r14 e13 hw3=>?_))))))))))))
 obtain rfl:=r14
 refine mv 1 rfl (pf g1 2 rfl (by kernel_rfl) (lo aggInt (hb4.ext (e8.trans e13)) [.bool tp,.slice Bp mp dp] rfl rfl rfl (pf g6 2 rfl (by kernel_rfl) (lo aggInt (hb9.ext e13) [.bool tq,.slice Bq mq dq] rfl rfl rfl (cl (vs:= [.agg #[.bool tp,.slice Bp mp dp],.agg #[.bool tq,.slice Bq mq dq]]) hw3 (g_law5_alike (zyp.ext (e3.trans (e8.trans e13))) (zyp.le (lx_ ly rfl)) (zyq.ext (e3.trans (e8.trans e13))) (zyq.le (lx_ ly rfl))) rfl (by kernel_rfl) fun xr17 v15 r17 e16 hw4=>?_)))))
 obtain rfl:=r17
 refine pu (v:= .bool true) rfl (by kernel_rfl) (mv 1 rfl (pf g1 4 rfl (by kernel_rfl) (wl_load rfl rfl (load_cell (fun _=>by kernel_rfl) (hb4.ext (e8.trans (e13.trans e16))) rfl) (by decide) (pf g6 4 rfl (by kernel_rfl) (wl_load rfl rfl (load_cell (fun _=>by kernel_rfl) (hb9.ext (e13.trans e16)) rfl) (by decide) (wl_cmp rfl rfl rfl true (eq_t rfl) (by decide) (pu (v:= .bool true) rfl (by kernel_rfl) (mv 1 rfl (pf g1 5 rfl (by kernel_rfl) (wl_load rfl rfl (load_cell (fun _=>by kernel_rfl) (hb4.ext (e8.trans (e13.trans e16))) rfl) (by decide) (pf g6 5 rfl (by kernel_rfl) (wl_load rfl rfl (load_cell (fun _=>by kernel_rfl) (hb9.ext (e13.trans e16)) rfl) (by decide) (wl_cmp rfl rfl rfl true (eq_t rfl) (by decide) ?_)))))))))))))
 refine pu (v:= .bool true) rfl (by kernel_rfl) (mv 1 rfl (pf g1 6 rfl (by kernel_rfl) (wl_load rfl rfl (load_cell (fun _=>by kernel_rfl) (hb4.ext (e8.trans (e13.trans e16))) rfl) (by decide) (pf g6 6 rfl (by kernel_rfl) (wl_load rfl rfl (load_cell (fun _=>by kernel_rfl) (hb9.ext (e13.trans e16)) rfl) (by decide) (wl_cmp rfl rfl rfl true (eq_t rfl) (by decide) (pu (v:= .bool true) rfl (by kernel_rfl) (mv 1 rfl (pf g1 7 rfl (by kernel_rfl) (wl_load rfl rfl (load_cell (fun _=>by kernel_rfl) (hb4.ext (e8.trans (e13.trans e16))) rfl) (by decide) (pf g6 7 rfl (by kernel_rfl) (wl_load rfl rfl (load_cell (fun _=>by kernel_rfl) (hb9.ext (e13.trans e16)) rfl) (by decide) (wl_streq (a:=t.S) (b:=t.S) rfl rfl rfl lt lt true (strE_eql_t (rfl)) (by decide) ?_)))))))))))))
 refine pu (v:= .bool true) rfl (by kernel_rfl) (mv 1 rfl (pf g1 8 rfl (by kernel_rfl) (wl_load rfl rfl (load_cell (fun _=>by kernel_rfl) (hb4.ext (e8.trans (e13.trans e16))) rfl) (by decide) (pf g6 8 rfl (by kernel_rfl) (wl_load rfl rfl (load_cell (fun _=>by kernel_rfl) (hb9.ext (e13.trans e16)) rfl) (by decide) (wl_cmp rfl rfl rfl true (eq_t rfl) (by decide) (pu (v:= .bool true) rfl (by kernel_rfl) (mv 1 rfl (ne_ (cw_ret (eo_ret [.bool true] rfl ⟨rfl,trivial⟩ ?_)))))))))))
 exact⟨_,rfl,rfl,hw4⟩
theorem g_law5_matches {w:World}{t:AnsT}{b1 b2:Nat}{u v:Value}(hu:AnsR b1 t u w) (hv:AnsR b2 t v w):Calls Tryz.prog 11 #[u,v] w (Gv w (Is (.bool true))):=by
 obtain⟨s,A,n,c,s',A',n',c',rfl,h1,h2,h3,h4,h5⟩:=hu
 obtain⟨r,B,m,d,r',B',m',d',rfl,k1,k2,_,_,_⟩:=hv
 exact g_law5_matchesI h1 h2 k1 k2 h3 h4 h5
end Go.Proofs.YthggegdkpalgbaaGreatDoor

namespace Go.Proofs.YthggegdkpalgbaaGreatDoor
open Go.ChangeShapes Go.WideShapes Go.ChangeAt Go.RowKit
set_option maxRecDepth 20000 in
theorem open_zlc {H:Type}{enc:TypeId×Value→H}{W:World}{v:Value}{d:DataW H}{p:List MemPlace}{fuel:Nat}
  (hf:DataW.trod enc Tryz.prog W 0 (fun _=>true) true fuel 27 [v]=some (d,p)):
  ∃A n cap zs ms,v= .slice A n cap∧Zl W A n cap zs ms∧n+ms.sum≤Rows.uptoBulk d:=by
 rcases Go.Deep.open_slice Tryz.underlying27 hf with⟨hcs,hx⟩ | ⟨a,n,cap,m,k,D,Pl,hcs,_,hl,hm,hmm,hx,hi⟩
 ·obtain rfl:=List.singleton_inj.1 hcs
  exact⟨none,0,0,[],[],rfl,⟨rfl,rfl,Nat.le_refl _,by decide,fun i hi=>by omega⟩,by simp⟩
 ·obtain rfl:=List.singleton_inj.1 hcs
  simp only [if_true] at hmm
  have hmm':=hmm.symm
  subst hmm'
  simp only [Prod.mk.injEq] at hx
  obtain⟨rfl,rfl⟩:=hx
  rw [cells_int] at hi
  have hel:∀i,i<cap→∃(q:Bool×Option Addr×Nat×Nat×Int),W.cell? (a.add (i*2))=some (.bool q.1)∧W.cell? (a.add (i*2+1))=some (.slice q.2.1 q.2.2.1 q.2.2.2.1)∧Zi W q.1 q.2.1 q.2.2.1 q.2.2.2.1 q.2.2.2.2∧q.2.2.1+1≤Rows.uptoBulk (D i):=by
   intro i him
   obtain⟨cs',hc,ht'⟩:=hi i him
   obtain⟨_,hcl,hat⟩:=World.cells?_some hc
   obtain⟨c0,c1,rfl⟩:=elem_len hcl
   have ht2:DataW.trod enc Tryz.prog W 0 (fun _=>true) true k 26 [c0,c1]=some (D i,Pl i):=ht'
   obtain⟨s,B,nb,c,z,rfl,rfl,hz,hb,rx⟩:=open_zcells ht2
   refine⟨(s,B,nb,c,z),?_,?_,hz,hb⟩
   ·have:=hat 0 (by simp)
    simpa [Go.Deep.add_add] using this
   ·have:=hat 1 (by simp)
    simpa [Go.Deep.add_add] using this
  obtain⟨Q,hQ⟩:=Go.Deep.choose_lt hel
  refine⟨some a,n,cap,(List.range n).map (fun i=>(Q i).2.2.2.2),(List.range n).map (fun i=>(Q i).2.2.1),rfl,⟨by simp,by simp,hl,hm,fun i hin=>?_⟩,?_⟩
  ·obtain⟨h1,h2,h3,_⟩:=hQ i (by omega)
   have e1:((List.range n).map (fun i=>(Q i).2.2.1)).getD i 0=(Q i).2.2.1:=by simp [List.getD_eq_getElem?_getD,hin]
   have e2:((List.range n).map (fun i=>(Q i).2.2.2.2)).getD i 0=(Q i).2.2.2.2:=by simp [List.getD_eq_getElem?_getD,hin]
   rw [e1,e2]
   exact⟨a,_,_,_,rfl,h1,h2,h3⟩
  ·have:=sum_map_le D (fun i=>(Q i).2.2.1) n (fun i hin=>(hQ i (by omega)).2.2.2)
   simp only [Rows.uptoBulk]
   omega
theorem twelve {α:Type}{l:List α}(h:l.length=12):∃a b c d e f g i j k m n,l= [a,b,c,d,e,f,g,i,j,k,m,n]:=by
 match l,h with
 | [a,b,c,d,e,f,g,i,j,k,m,n],_=>exact⟨a,b,c,d,e,f,g,i,j,k,m,n,rfl⟩
theorem nines {α:Type}{l:List α}(h:l.length=9):∃a b c d e f g i j,l= [a,b,c,d,e,f,g,i,j]:=by
 match l,h with
 | [a,b,c,d,e,f,g,i,j],_=>exact⟨a,b,c,d,e,f,g,i,j,rfl⟩
theorem fields_op5:∃f0 f1 f2 f3 f4 f5 f6 f7 f8:Field,Tryz.prog.underlying 29=some (.struct #[f0,f1,f2,f3,f4,f5,f6,f7,f8])∧(f0.type=3∧f0.offset=0)∧(f1.type=26∧f1.offset=1)∧(f2.type=26∧f2.offset=3)∧(f3.type=26∧f3.offset=5)∧(f4.type=3∧f4.offset=7)∧(f5.type=2∧f5.offset=8)∧(f6.type=9∧f6.offset=9)∧(f7.type=27∧f7.offset=10)∧(f8.type=27∧f8.offset=11):=
 ⟨_,_,_,_,_,_,_,_,_,Tryz.underlying29,⟨rfl,rfl⟩,⟨rfl,rfl⟩,⟨rfl,rfl⟩,⟨rfl,rfl⟩,⟨rfl,rfl⟩,⟨rfl,rfl⟩,⟨rfl,rfl⟩,⟨rfl,rfl⟩,⟨rfl,rfl⟩⟩
theorem cells_op5:Tryz.prog.cellsOf 29=12:=by kernel_rfl
theorem cells_s5:Tryz.prog.cellsOf 9=1:=by kernel_rfl
theorem cells_i5:Tryz.prog.cellsOf 3=1:=by kernel_rfl
theorem cells_l5:Tryz.prog.cellsOf 2=1:=by kernel_rfl
theorem cells_z5:Tryz.prog.cellsOf 27=1:=by kernel_rfl
def Op5c (w:World) (us:List Value):Prop:=
 ∃k x y z nn mm bs zs ys n1 n2,Op5 w k x y z nn mm bs zs ys n1 n2 (.agg us.toArray)∧n1≤1048576∧n2≤1048576∧(∀b,b∈bs→b<256)∧bs.length≤1048576∧ -9223372036854775808≤mm∧mm≤9223372036854775807
theorem sum_le5 {ms:List Nat}{N:Nat}(h:ms.sum≤N) (i:Nat):ms.getD i 0≤N:=Nat.le_trans (getD_le_sum _ _) h
set_option maxRecDepth 20000 in
set_option maxHeartbeats 1000000 in
theorem open_op5c {H:Type}{enc:TypeId×Value→H}{W:World}{cs:List Value}{x:DataW H×List MemPlace}{fuel:Nat}
  (h:DataW.trod enc Tryz.prog W 0 (fun _=>true) true fuel 29 cs=some x) (hle:Rows.uptoBulk x.1≤1048576):Op5c W cs:=by
 obtain⟨f0,f1,f2,f3,f4,f5,f6,f7,f8,hu,⟨t0,o0⟩,⟨t1,o1⟩,⟨t2,o2⟩,⟨t3,o3⟩,⟨t4,o4⟩,⟨t5,o5⟩,⟨t6,o6⟩,⟨t7,o7⟩,⟨t8,o8⟩⟩:=fields_op5
 obtain⟨ys,n,_,rfl,hcl,hyl,hf⟩:=DataW.trod_struct hu h
 rw [cells_op5] at hcl
 obtain⟨c0,c1,c2,c3,c4,c5,c6,c7,c8,c9,c10,c11,rfl⟩:=twelve hcl
 obtain⟨y0,y1,y2,y3,y4,y5,y6,y7,y8,rfl⟩:=nines (show ys.length=9 from hyl)
 have g0:=hf 0 f0 rfl
 have g1:=hf 1 f1 rfl
 have g2:=hf 2 f2 rfl
 have g3:=hf 3 f3 rfl
 have g4:=hf 4 f4 rfl
 have g5:=hf 5 f5 rfl
 have g6:=hf 6 f6 rfl
 have g7:=hf 7 f7 rfl
 have g8:=hf 8 f8 rfl
 rw [t0,o0,cells_i5] at g0
 rw [t1,o1,cells_int] at g1
 rw [t2,o2,cells_int] at g2
 rw [t3,o3,cells_int] at g3
 rw [t4,o4,cells_i5] at g4
 rw [t5,o5,cells_l5] at g5
 rw [t6,o6,cells_s5] at g6
 rw [t7,o7,cells_z5] at g7
 rw [t8,o8,cells_z5] at g8
 obtain⟨k,hk,_,_⟩:=DataW.trod_int Tryz.underlying3 (show DataW.trod enc Tryz.prog W 0 (fun _=>true) true n 3 [c0]=some y0 from g0)
 obtain⟨sa,Aa,na,ca,x,rfl,rfl,hx,hbx,_⟩:=open_zcells (show DataW.trod enc Tryz.prog W 0 (fun _=>true) true n 26 [c1,c2]=some y1 from g1)
 obtain⟨sb,Ab,nb,cb,y,rfl,rfl,hy,hby,_⟩:=open_zcells (show DataW.trod enc Tryz.prog W 0 (fun _=>true) true n 26 [c3,c4]=some y2 from g2)
 obtain⟨sd,Ad,nd,cd,z,rfl,rfl,hz,hbz,_⟩:=open_zcells (show DataW.trod enc Tryz.prog W 0 (fun _=>true) true n 26 [c5,c6]=some y3 from g3)
 obtain⟨nn,hnn,_,_⟩:=DataW.trod_int Tryz.underlying3 (show DataW.trod enc Tryz.prog W 0 (fun _=>true) true n 3 [c7]=some y4 from g4)
 obtain⟨mm,hmm,_,hwm⟩:=DataW.trod_int Tryz.underlying2 (show DataW.trod enc Tryz.prog W 0 (fun _=>true) true n 2 [c8]=some y5 from g5)
 obtain⟨s,hs,hs2,_⟩:=DataW.trod_string Tryz.underlying9 (show DataW.trod enc Tryz.prog W 0 (fun _=>true) true n 9 [c9]=some y6 from g6)
 obtain⟨A,n1,c1',zs,ms,rfl,hl,hbl⟩:=open_zlc (d:=y7.1) (p:=y7.2) (show DataW.trod enc Tryz.prog W 0 (fun _=>true) true n 27 [c10]=some y7 from g7)
 obtain⟨C,n2,c2',zs2,ms2,rfl,hl2,hbl2⟩:=open_zlc (d:=y8.1) (p:=y8.2) (show DataW.trod enc Tryz.prog W 0 (fun _=>true) true n 27 [c11]=some y8 from g8)
 obtain rfl:=List.singleton_inj.1 hk
 obtain rfl:=List.singleton_inj.1 hnn
 obtain rfl:=List.singleton_inj.1 hmm
 obtain rfl:=List.singleton_inj.1 hs
 obtain⟨bs,rfl,hbs,hbl3⟩:=str_bytes s
 have hw:=wf_int hwm
 simp only [Rows.uptoBulk,List.map_cons,Rows.uptoBulkAll,hs2] at hle
 have hsz:(strB bs).data.toList.length=(strB bs).size:=Array.length_toList
 exact⟨k,x,y,z,nn,mm,bs,zs,zs2,n1,n2,⟨_,_,_,_,_,_,_,_,_,_,_,_,_,_,_,_,_,_,rfl,hx,by omega,hy,by omega,hz,by omega,hl,sum_le5 (by omega),hl2,sum_le5 (by omega)⟩,by omega,by omega,hbs,by omega,hw.1,hw.2⟩
set_option maxRecDepth 20000 in
theorem open_ops5 {H:Type}{enc:TypeId×Value→H}{W:World}{base:Nat}{v:Value}{d:DataW H}{pl:List MemPlace}
  (hval:Value.okWide Tryz.prog W .any base 22 v) (h:DataW.Trod enc Tryz.prog W 0 (fun _=>true) true 22 v d pl):
  ∃A n cap,v= .slice A n cap∧(Rows.uptoBulk d≤1048576→Al 12 Op5c W A n)∧n≤Rows.uptoBulk d:=by
 obtain⟨A,n,cap,h1,h2,h3⟩:=open_al (ok:=fun W cs=>Rows.uptoBulk d≤1048576→Op5c W cs) Tryz.underlying22 cells_op5 (fun _ _ _ hx hle hd=>open_op5c hx (Nat.le_trans hle hd)) hval h
 refine⟨A,n,cap,h1,fun hd i hi=>?_,h3⟩
 obtain⟨p,us,k1,k2,k3,k4⟩:=h2 i hi
 exact⟨p,us,k1,k2,k3,k4 hd⟩
theorem Al.at12 {w:World}{A:Option Addr}{n i:Nat}(h:Al 12 Op5c w A n) (hi:i<n):
  ∃(p:Addr) (v:Value) (k x y z nn mm:Int) (bs:List Nat) (zs ys:List Int) (n1 n2:Nat),A.map (·.add (i*12))=some p∧(∀w',Ext w w'→(loadVar 29 p).run Tryz.prog w'= .ok v w')∧Op5 w k x y z nn mm bs zs ys n1 n2 v∧
   n1≤1048576∧n2≤1048576∧(∀b,b∈bs→b<256)∧bs.length≤1048576∧ -9223372036854775808≤mm∧mm≤9223372036854775807:=by
 obtain⟨p,us,h1,h2,h3,k,x,y,z,nn,mm,bs,zs,ys,n1,n2,ho,h4⟩:=h i hi
 exact⟨p,.agg us.toArray,k,x,y,z,nn,mm,bs,zs,ys,n1,n2,h1,fun w' e=>load_at aggOp5 us h2 (fun j hj=>e.cell (h3 j (by omega))),ho,h4⟩
end Go.Proofs.YthggegdkpalgbaaGreatDoor
