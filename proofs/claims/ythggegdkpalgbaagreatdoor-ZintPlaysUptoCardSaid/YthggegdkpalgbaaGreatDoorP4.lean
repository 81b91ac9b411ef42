/- Parts Ref3, Ref3b, Ref3c, Ref3d, Ref5, Pow5, Ref5b, Ref5c, Ref5e, Own, Ref4, Ref4t, joined. -/
import Derived.Test.YthggegdkpalgbaaGreatDoorP3

namespace Go.Proofs.YthggegdkpalgbaaGreatDoor
open Go.RowKit
def TR (A:Option Addr) (n c:Nat) (xs:List Nat) (v:Value) (_:World):Prop:=∃k,v= .slice A k c∧k≤n∧(k=0∨xs.getD (k-1) 0≠0)∧∀b,nb b (xs.take k)=nb b xs
theorem trim_step {xs:List Nat}{k:Nat}(hk:k>0) (hl:k≤xs.length) (h0:xs.getD (k-1) 0=0) (hv:∀b,nb b (xs.take k)=nb b xs) (b:Nat):nb b (xs.take (k-1))=nb b xs:=by
 rw [←hv b,←nb_take_zero b xs (k-1) (by omega) h0,Nat.sub_add_cancel hk]
theorem slice_to (A:Option Addr) (c k:Nat):Value.slice (if c=0 then A else A.map (·.add (0*1))) (k-0) (c-0)= .slice A k c:=by
 have h0:A.map (·.add (0*1))=A:=by
  cases A with
  | none=>rfl
  | some a=>simp [add_zero_addr]
 rw [h0,ite_self];rfl
def WD (m:Nat) (v:Value) (w:World):Prop:=∃A k c,v= .slice A k c∧Rd w A k c (db 4294967296 m)
theorem b32:2≤4294967296:=by decide
theorem WB_32:WB=4294967296^2:=by decide
theorem Wfb.wf {xs:List Nat}(h:Wfb 4294967296 xs):Wf xs:=fun x hx=>Nat.lt_trans (h x hx) (by decide)
theorem Bk.rd0 {w:World}{g N:Nat}{t:TypeId}{l:List Nat}(h:Bk w g t (l.map W64)) (hw:Wf l) (hl:l.length=N) (hN:N≤9223372036854775807):Rd w (some ⟨g,0,none⟩) N N l:=by
 have:=h.rd hw (o:=0) (n:=N) (cap:=N) (Nat.le_refl _) (by omega) (by rw [len_maxLen];exact hN)
 rwa [List.drop_zero,List.take_of_length_le (Nat.le_of_eq hl)] at this
theorem Rd.trim {w:World}{A:Option Addr}{n c k:Nat}{xs:List Nat}(h:Rd w A n c xs) (hw:Wfb 4294967296 xs) (hk:k≤n) (ht:k=0∨xs.getD (k-1) 0≠0) (hv:∀b,nb b (xs.take k)=nb b xs):
  Rd w A k c (db 4294967296 (nb 4294967296 xs)):=by
 rw [db_take b32 hw (by rw [h.len];exact hk) (hv _) ht]
 exact h.take hk (by have:=h.rv.le;omega) (Nat.le_refl _)
theorem halves_step3 {l xs:List Nat}{i x:Nat}(hl:2*i+1<l.length) (hi:i<xs.length) (hx:xs.getD i 0=x) (h:nb 4294967296 (l.take (2*i))=nv (xs.take i)):
  nb 4294967296 (((l.set (2*i) (x%4294967296)).set (2*i+1) (x/4294967296)).take (2*(i+1)))=nv (xs.take (i+1)):=by
 rw [show 2*(i+1)=2*i+1+1 by omega,nb_set_snoc 4294967296 (by rw [List.length_set];exact hl),nb_set_snoc 4294967296 (by omega),h,nv_take_snoc xs i hi,hx,WB_32,←Nat.pow_mul,Nat.pow_succ,Nat.mul_assoc,Nat.add_assoc,←Nat.mul_add,Nat.mod_add_div]
structure WI (ys l:List Nat) (i:Nat):Prop where
 wf:Wf l
 v:nv l=nb 4294967296 (ys.take i)
 z:∀j,i≤2*j→l.getD j 0=0
 o:i%2=1→l.getD (i/2) 0<4294967296
theorem WI.start (ys:List Nat) (N:Nat):WI ys (List.replicate N 0) 0:=by
 refine⟨fun x hx=>by rw [(List.mem_replicate.1 hx).2];decide,?_,fun j _=>?_,fun h=>by omega⟩
 ·rw [nv_nb,nb_zeros];rfl
 ·rw [List.getD_eq_getElem?_getD]
  by_cases h:j<N
  ·rw [List.getElem?_replicate_of_lt h];rfl
  ·rw [List.getElem?_eq_none (by rw [List.length_replicate];omega)];rfl
theorem WI.even {ys l:List Nat}{i:Nat}(h:WI ys l i) (he:i%2=0) (hi:i<ys.length) (hl:i/2<l.length) (hd:ys.getD i 0<4294967296):WI ys (l.set (i/2) (ys.getD i 0)) (i+1):=by
 have h0:=h.z (i/2) (by omega)
 have h1:=nv_set hl (ys.getD i 0)
 refine⟨Wf_set h.wf _ (Nat.lt_trans hd (by decide)),?_,fun j hj=>?_,fun _=>?_⟩
 ·rw [nb_take_snoc 4294967296 ys i hi,←h.v]
  rw [h0,Nat.mul_zero,Nat.add_zero,WB_32,←Nat.pow_mul,show 2*(i/2)=i by omega] at h1
  exact h1
 ·rw [getD_set_ne (by omega),h.z j (by omega)]
 ·rw [show (i+1)/2=i/2 by omega,getD_set_eq hl];exact hd
theorem WI.odd {ys l:List Nat}{i:Nat}(h:WI ys l i) (he:i%2=1) (hi:i<ys.length) (hl:i/2<l.length) (hd:ys.getD i 0<4294967296):WI ys (l.set (i/2) (l.getD (i/2) 0+ys.getD i 0*4294967296)) (i+1):=by
 have h0:=h.o he
 have h1:=nv_set hl (l.getD (i/2) 0+ys.getD i 0*4294967296)
 refine⟨Wf_set h.wf _ (by rw [WB_def];omega),?_,fun j hj=>?_,fun h=>by omega⟩
 ·have e:WB^(i/2)*4294967296=4294967296^i:=by
   rw [WB_32,←Nat.pow_mul,←Nat.pow_succ,show (2*(i/2)).succ=i by omega]
  rw [nb_take_snoc 4294967296 ys i hi,←h.v,←e]
  rw [Nat.mul_add] at h1
  have e2:WB^(i/2)*(ys.getD i 0*4294967296)=WB^(i/2)*4294967296*ys.getD i 0:=by rw [Nat.mul_comm (ys.getD i 0),Nat.mul_assoc]
  omega
 ·rw [getD_set_ne (by omega),h.z j (by omega)]
theorem WI.done {xs ys l:List Nat}{k:Nat}(h:WI ys l k) (hk:ys.length=k) (hl:l.length=(k+1)/2) (hv:nb 4294967296 ys=nb 4294967296 xs) (ht:k=0∨ys.getD (k-1) 0≠0):l.take ((k+1)/2)=wd (nb 4294967296 xs):=by
 have hv2:nv l=nb 4294967296 xs:=by rw [h.v,List.take_of_length_le (Nat.le_of_eq hk),hv]
 rw [List.take_of_length_le (by omega),←hv2]
 refine (wd_of_ge h.wf ?_).symm
 by_cases h0:k=0
 ·left;omega
 ·right
  have h1:ys.getD (k-1) 0≠0:=by omega
  rw [hv2,←hv,nb_split 4294967296 ys (k-1) (by omega),hl]
  have h2:WB^((k+1)/2-1)≤4294967296^(k-1):=by
   rw [WB_32,←Nat.pow_mul]
   exact Nat.pow_le_pow_right (by decide) (by omega)
  have h3:1≤nb 4294967296 (ys.drop (k-1)):=by
   rw [List.drop_eq_getElem_cons (by omega),nb_cons]
   rw [List.getD_eq_getElem?_getD,List.getElem?_eq_getElem (by omega),Option.getD_some] at h1
   omega
  have h4:4294967296^(k-1)*1≤4294967296^(k-1)*nb 4294967296 (ys.drop (k-1)):=Nat.mul_le_mul_left _ h3
  omega
theorem top_take {xs:List Nat}{k:Nat}(h:k=0∨xs.getD (k-1) 0≠0):k=0∨(xs.take k).getD (k-1) 0≠0:=by
 by_cases h0:k=0
 ·exact Or.inl h0
 ·rw [getD_take (by omega)];exact h
set_option maxHeartbeats 4000000 in
theorem ref3_Trim {w:World}{A:Option Addr}{n cap:Nat}{xs:List Nat}(hx:Rd w A n cap xs) (hln:n≤1099511627776):
    Calls Tryz.prog 186 #[.slice A n cap] w (Gv w (TR A n cap xs)):=by
 have hlen:=hx.len
 have hle:=hx.rv.le
 refine sx_enter Tryz.func186 rfl (n:=21) rfl (bq rfl) (args:= [.slice A n cap]) (cw_keep [(0,.slice A n cap)] ⟨rfl,trivial⟩ (sr (mv 1 rfl (ne_ (sr (mv 1 rfl (pu (v:= .int .i64 ((n:Nat):Int)) rfl (by kernel_rfl) (mv 1 rfl (ne_ (cw_seq (cw_block ?_)))))))))))
 refine cw_loop (T:=World×Nat)
  (fun⟨wr,k⟩=> [(0,.slice A n cap),(3,.int .i64 ((k:Nat):Int))])
  (fun⟨wr,k⟩=>wr)
  (fun⟨wr,k⟩=>(Ext w wr)∧(k≤n)∧(∀b,nb b (xs.take k)=nb b xs)∧(Rd wr A n cap xs))
  (fun⟨wr,k⟩=>k)
  (⟨w,n⟩:World×Nat) ⟨(Ext.refl w),Nat.le_refl _,fun b=>by rw [List.take_of_length_le (by omega)],hx⟩ rfl ⟨rfl,rfl,trivial⟩ ?_
 rintro⟨wr,k⟩ ⟨hw1,hk,hv,rl0⟩
 refine cw_re [(0,.slice A n cap),(3,.int .i64 ((k:Nat):Int))] wr rfl ⟨rfl,rfl,trivial⟩ (cw_seq (cw_seq ?_))
 by_cases hkp:k>0
 · 
  by_cases hz:xs.getD (k-1) 0=0
  · 
   refine cw_region (mv 1 rfl (wl_cmp rfl rfl rfl true (cb_gt_t (a:=k) (b:=0) rfl rfl (by omega)) (by decide) (mv 3 rfl (wl_ar rfl rfl rfl ((k-1:Nat):Int) (ai_sub (a:=k) (b:=1) rfl rfl (by omega) (by omega)) (by decide) ?_))))
   obtain⟨p1,hp1,hc1,hv1⟩:=(rl0).at (i:=k-1) (by omega)
   refine wl_idx rfl rfl rfl un_u64 sz_u64 (k-1) rfl (by omega) p1 hp1 (by decide) (wl_load rfl rfl (load_cell1 ag_u64 hc1) (by decide) (wl_cmp rfl rfl rfl true (cb_eq_t (a:=xs.getD (k-1) 0) (b:=0) rfl rfl (by omega)) (by decide) (pu (v:= .bool true) rfl (by kernel_rfl) (ne_ (cw_true rfl (cw_skip (eo_then (cw_block (cw_region (mv 1 rfl (wl_ar rfl rfl rfl ((k-1:Nat):Int) (ai_sub (a:=k) (b:=1) rfl rfl (by omega) (by omega)) (by decide) (mv 1 rfl (wl_nil ?_)))))))))))))
   refine eo_block_normal (eo_round (⟨wr,k-1⟩:World×Nat) ⟨hw1,(by omega),trim_step hkp (by omega) hz hv,rl0⟩ (show k-1<k by omega) rfl ⟨rfl,rfl,trivial⟩)
  · 
   refine cw_region (mv 1 rfl (wl_cmp rfl rfl rfl true (cb_gt_t (a:=k) (b:=0) rfl rfl (by omega)) (by decide) (mv 3 rfl (wl_ar rfl rfl rfl ((k-1:Nat):Int) (ai_sub (a:=k) (b:=1) rfl rfl (by omega) (by omega)) (by decide) ?_))))
   obtain⟨p2,hp2,hc2,hv2⟩:=(rl0).at (i:=k-1) (by omega)
   refine wl_idx rfl rfl rfl un_u64 sz_u64 (k-1) rfl (by omega) p2 hp2 (by decide) (wl_load rfl rfl (load_cell1 ag_u64 hc2) (by decide) (wl_cmp rfl rfl rfl false (cb_eq_f (a:=xs.getD (k-1) 0) (b:=0) rfl rfl (by omega)) (by decide) (pu (v:= .bool false) rfl (by kernel_rfl) (ne_ (cw_false rfl (cw_exit (eo_thenX (eo_loopX (eo_block_here (eo_then (sr (mv 2 rfl (wl_slice rfl rfl un_u64 sz_u64 (lo:=0) (hi:=k) rfl rfl (by omega) (by omega) (v:= .slice A k cap) (slice_to _ _ _) (by decide) ?_)))))))))))))
   refine mv 1 rfl (ne_ (cw_ret (eo_ret [.slice A k cap] rfl ⟨rfl,trivial⟩ ?_)))
   exact⟨_,rfl,⟨k,rfl,hk,Or.inr hz,hv⟩,hw1⟩
 · 
  refine cw_region (mv 1 rfl (wl_cmp rfl rfl rfl false (cb_gt_f (a:=k) (b:=0) rfl rfl (by omega)) (by decide) (mv 7 rfl (pu (v:= .bool false) rfl (by kernel_rfl) (ne_ (cw_false rfl (cw_exit (eo_thenX (eo_loopX (eo_block_here (eo_then (sr (mv 1 rfl ?_)))))))))))))
  refine mv 1 rfl (wl_slice rfl rfl un_u64 sz_u64 (lo:=0) (hi:=k) rfl rfl (by omega) (by omega) (v:= .slice A k cap) (slice_to _ _ _) (by decide) (mv 1 rfl (ne_ (cw_ret (eo_ret [.slice A k cap] rfl ⟨rfl,trivial⟩ ?_)))))
  exact⟨_,rfl,⟨k,rfl,hk,Or.inl (by omega),hv⟩,hw1⟩
set_option maxHeartbeats 4000000 in
theorem ref3_halves {w:World}{A:Option Addr}{n cap:Nat}{xs:List Nat}(hx:Rd w A n cap xs) (hln:n≤274877906944):
    Calls Tryz.prog 174 #[.slice A n cap] w (Gv w (WD (nv xs))):=by
 have hlen:=hx.len
 have hle:=hx.rv.le
 refine sx_enter Tryz.func174 rfl (n:=38) rfl (bq rfl) (args:= [.slice A n cap]) (cw_keep [(0,.slice A n cap)] ⟨rfl,trivial⟩ (sr (mv 1 rfl (ne_ (sr (mv 1 rfl (cl (vs:= [.slice A n cap]) (Ext.refl w) (ref3_Trim hx (by omega)) rfl (by kernel_rfl) fun xr3 v1 r3 e2 hw1=>?_)))))))
 obtain⟨k4,rfl,hk4,ht4,hv4⟩:=r3
 have rd4:=((hx.ext e2)).take hk4 (by omega) (Nat.le_refl _)
 refine mv 1 rfl (ne_ (cw_seq ?_))
 obtain⟨ys,hys⟩:∃ys,xs.take k4=ys:=⟨_,rfl⟩
 have hvy:nv ys=nv xs:=by rw [←hys,nv_nb,nv_nb];exact hv4 _
 rw [hys] at rd4
 have hly:=rd4.len
 refine cw_region (mv 1 rfl (pu (v:= .int .i64 ((k4:Nat):Int)) rfl (by kernel_rfl) (wl_ar rfl rfl rfl ((2*k4:Nat):Int) (ai_mul (a:=2) (b:=k4) rfl rfl (by omega)) (by decide) (wl_make rfl (k:=2*k4) rfl rfl rfl un_u64 info64 rfl (by decide) (by omega) (by decide) fun g5 v6 hg7 hb8 e9=>?_))))
 rw [replicate_W64] at hb8
 have ge10:w.heap.size≤g5:=by rw [←hg7];exact hw1.size
 have ne12:0<cap→∀a,A=some a→a.block≠g5:=fun hc a ha=>by have:=(rd4).rv.blk a ha hc;omega
 clear hg7
 have hw2:=hw1.trans e9
 refine mv 1 rfl (ne_ (cw_seq (sr (mv 1 rfl (ne_ (cw_block ?_))))))
 refine cw_loop (T:=World×Nat×List Nat)
  (fun⟨wr,i,l⟩=> [(0,.slice A k4 cap),(3,.slice (some ⟨g5,0,none⟩) (2*k4) (2*k4)),(4,.int .i64 ((i:Nat):Int))])
  (fun⟨wr,i,l⟩=>wr)
  (fun⟨wr,i,l⟩=>(Ext w wr)∧(i≤k4)∧(Bk wr g5 67 (l.map W64))∧(l.length=2*k4)∧(Wfb 4294967296 l)∧(nb 4294967296 (l.take (2*i))=nv (ys.take i))∧(Rd wr A k4 cap ys))
  (fun⟨wr,i,l⟩=>k4-i)
  (⟨v6,0,_⟩:World×Nat×List Nat) ⟨hw2,Nat.zero_le _,hb8,(List.length_replicate (n:=2*k4) (a:=0)),Wfb_zeros (by decide) _,by simp [nb,nv],(rd4.ext e9)⟩ rfl ⟨rfl,rfl,rfl,trivial⟩ ?_
 rintro⟨wr,i,l⟩ ⟨hw1,hi,hb,hl,hwf,hv,rl0⟩
 refine cw_re [(0,.slice A k4 cap),(3,.slice (some ⟨g5,0,none⟩) (2*k4) (2*k4)),(4,.int .i64 ((i:Nat):Int))] wr rfl ⟨rfl,rfl,rfl,trivial⟩ (cw_seq (cw_seq ?_))
 by_cases him:i<k4
 · 
  refine cw_region (mv 2 rfl (pu (v:= .int .i64 ((k4:Nat):Int)) rfl (by kernel_rfl) (wl_cmp rfl rfl rfl true (cb_lt_t (a:=i) (b:=k4) rfl rfl (by omega)) (by decide) (ne_ (cw_true rfl (cw_skip (eo_then (cw_seq (cw_block (cw_seq ?_))))))))))
  have hxb:ys.getD i 0≤18446744073709551615:=by have:=Wf_getD rd4.wf i;rw [WB_def] at this;omega
  refine cw_region (mv 2 rfl (wl_ar rfl rfl rfl ((2*i:Nat):Int) (ai_mul (a:=2) (b:=i) rfl rfl (by omega)) (by decide) (mv 2 rfl ?_)))
  obtain⟨p13,hp13,hc13,hv13⟩:=(rl0).at (i:=i) (by omega)
  refine wl_idx rfl rfl rfl un_u64 sz_u64 i rfl (by omega) p13 hp13 (by decide) (wl_load rfl rfl (load_cell1 ag_u64 hc13) (by decide) (wl_ar rfl rfl rfl (((ys.getD i 0)%4294967296:Nat):Int) (au_rem (a:=ys.getD i 0) (b:=4294967296) rfl rfl (by omega)) (by decide) (wl_idx rfl rfl rfl un_u64 sz_u64 (2*i) rfl (by omega) ⟨g5,2*i,none⟩ (arr_at _ _) (by decide) ?_)))
  have hb15:=hb
  refine wl_stored1 rfl rfl rfl sz_u64 rfl hb15 (len_map (by rw [hl];omega)) rfl ((l.set (2*i) ((ys.getD i 0)%4294967296)).map W64) (map_W64_set _ _ _) fun v14 hb16 u17 hs18=>?_
  have hw2:=u17.ext hw1 ge10
  refine ne_ (cw_region (mv 2 rfl (wl_ar rfl rfl rfl ((2*i:Nat):Int) (ai_mul (a:=2) (b:=i) rfl rfl (by omega)) (by decide) (wl_ar rfl rfl rfl (((2*i)+1:Nat):Int) (ai_add (a:=2*i) (b:=1) rfl rfl (by omega)) (by decide) (mv 2 rfl ?_)))))
  obtain⟨p19,hp19,hc19,hv19⟩:=((Rd.updL rl0 u17 ne12)).at (i:=i) (by omega)
  refine wl_idx rfl rfl rfl un_u64 sz_u64 i rfl (by omega) p19 hp19 (by decide) (wl_load rfl rfl (load_cell1 ag_u64 hc19) (by decide) (wl_ar rfl rfl rfl (((ys.getD i 0)/4294967296:Nat):Int) (au_quo (a:=ys.getD i 0) (b:=4294967296) rfl rfl (by omega) (by omega)) (by decide) (wl_idx rfl rfl rfl un_u64 sz_u64 ((2*i)+1) rfl (by omega) ⟨g5,(2*i)+1,none⟩ (arr_at _ _) (by decide) (wl_stored1 rfl rfl rfl sz_u64 rfl hb16 (len_map (by rw [(len_set (l:=l) (hl))];omega)) rfl (((l.set (2*i) ((ys.getD i 0)%4294967296)).set ((2*i)+1) ((ys.getD i 0)/4294967296)).map W64) (map_W64_set _ _ _) fun v20 hb22 u23 hs24=>?_))))
  have hw3:=u23.ext hw2 ge10
  refine wl_nil (eo_block_normal (eo_then (cw_region (mv 1 rfl (wl_ar rfl rfl rfl ((i+1:Nat):Int) (ai_add (a:=i) (b:=1) rfl rfl (by omega)) (by decide) (mv 1 rfl (wl_nil (eo_round (⟨v20,i+1,_⟩:World×Nat×List Nat) ⟨hw3,(by omega),hb22,(len_set (l:=l.set (2*i) ((ys.getD i 0)%4294967296)) ((len_set (l:=l) (hl)))),Wfb_set (Wfb_set hwf _ (Nat.mod_lt _ (by decide))) _ (by omega),halves_step3 (by omega) (by omega) rfl hv,(Rd.updL (Rd.updL rl0 u17 ne12) u23 ne12)⟩ (show k4-(i+1)<k4-i by omega) rfl ⟨rfl,rfl,rfl,trivial⟩))))))))
 · 
  refine cw_region (mv 2 rfl (pu (v:= .int .i64 ((k4:Nat):Int)) rfl (by kernel_rfl) (wl_cmp rfl rfl rfl false (cb_lt_f (a:=i) (b:=k4) rfl rfl (by omega)) (by decide) (ne_ (cw_false rfl (cw_exit (eo_thenX (eo_loopX (eo_block_here (eo_then (cw_seq ?_)))))))))))
  obtain rfl:k4=i:=by omega
  have hval:nb 4294967296 l=nv xs:=by rw [←hvy];rwa [List.take_of_length_le (by omega),List.take_of_length_le (by omega)] at hv
  refine cw_region (mv 1 rfl (cl (vs:= [.slice (some ⟨g5,0,none⟩) (2*k4) (2*k4)]) hw1 (ref3_Trim (hb.rd0 hwf.wf hl (by omega)) (by omega)) rfl (by kernel_rfl) fun xr27 v25 r27 e26 hw2=>?_))
  obtain⟨k28,rfl,hk28,ht28,hv28⟩:=r27
  refine mv 1 rfl (ne_ (cw_ret (eo_ret [.slice (some ⟨g5,0,none⟩) k28 (2*k4)] rfl ⟨rfl,trivial⟩ ?_)))
  have hr:=((hb.ext e26).rd0 hwf.wf hl (by omega)).trim hwf hk28 ht28 hv28
  rw [hval] at hr
  exact⟨_,rfl,⟨_,_,_,rfl,hr⟩,hw2⟩
set_option maxHeartbeats 4000000 in
theorem ref3_words {w:World}{A:Option Addr}{n cap:Nat}{xs:List Nat}(hx:Rd w A n cap xs) (hln:n≤1099511627776) (hwx:Wfb 4294967296 xs):
    Calls Tryz.prog 176 #[.slice A n cap] w (Gv w (WR w.heap.size (nb 4294967296 xs))):=by
 have hlen:=hx.len
 have hle:=hx.rv.le
 refine sx_enter Tryz.func176 rfl (n:=45) rfl (bq rfl) (args:= [.slice A n cap]) (cw_keep [(0,.slice A n cap)] ⟨rfl,trivial⟩ (sr (mv 1 rfl (ne_ (sr (mv 1 rfl (cl (vs:= [.slice A n cap]) (Ext.refl w) (ref3_Trim hx (by omega)) rfl (by kernel_rfl) fun xr3 v1 r3 e2 hw1=>?_)))))))
 obtain⟨k4,rfl,hk4,ht4,hv4⟩:=r3
 have rd4:=((hx.ext e2)).take hk4 (by omega) (Nat.le_refl _)
 refine mv 1 rfl (ne_ (cw_seq ?_))
 have hwy:Wfb 4294967296 (xs.take k4):=Wfb_take hwx _
 have hty:=top_take ht4
 have hvy:=hv4 4294967296
 obtain⟨ys,hys⟩:∃ys,xs.take k4=ys:=⟨_,rfl⟩
 rw [hys] at rd4 hwy hty hvy
 have hly:=rd4.len
 refine cw_region (mv 1 rfl (pu (v:= .int .i64 ((k4:Nat):Int)) rfl (by kernel_rfl) (wl_ar rfl rfl rfl ((k4+1:Nat):Int) (ai_add (a:=k4) (b:=1) rfl rfl (by omega)) (by decide) (wl_ar rfl rfl rfl (((k4+1)/2:Nat):Int) (ai_quo (a:=k4+1) (b:=2) rfl rfl (by omega) (by omega)) (by decide) (wl_make rfl (k:=(k4+1)/2) rfl rfl rfl un_u64 info64 rfl (by decide) (by omega) (by decide) fun g5 v6 hg7 hb8 e9=>?_)))))
 rw [replicate_W64] at hb8
 have ge10:w.heap.size≤g5:=by rw [←hg7];exact hw1.size
 have ne12:0<cap→∀a,A=some a→a.block≠g5:=fun hc a ha=>by have:=(rd4).rv.blk a ha hc;omega
 clear hg7
 have hw2:=hw1.trans e9
 refine mv 1 rfl (ne_ (cw_seq (sr (mv 1 rfl (ne_ (cw_block ?_))))))
 refine cw_loop (T:=World×Nat×List Nat)
  (fun⟨wr,i,l⟩=> [(0,.slice A k4 cap),(3,.slice (some ⟨g5,0,none⟩) ((k4+1)/2) ((k4+1)/2)),(4,.int .i64 ((i:Nat):Int))])
  (fun⟨wr,i,l⟩=>wr)
  (fun⟨wr,i,l⟩=>(Ext w wr)∧(i≤k4)∧(Bk wr g5 67 (l.map W64))∧(l.length=(k4+1)/2)∧(WI ys l i)∧(Rd wr A k4 cap ys))
  (fun⟨wr,i,l⟩=>k4-i)
  (⟨v6,0,_⟩:World×Nat×List Nat) ⟨hw2,Nat.zero_le _,hb8,(List.length_replicate (n:=(k4+1)/2) (a:=0)),WI.start _ _,(rd4.ext e9)⟩ rfl ⟨rfl,rfl,rfl,trivial⟩ ?_
 rintro⟨wr,i,l⟩ ⟨hw1,hi,hb,hl,hI,rl0⟩
 refine cw_re [(0,.slice A k4 cap),(3,.slice (some ⟨g5,0,none⟩) ((k4+1)/2) ((k4+1)/2)),(4,.int .i64 ((i:Nat):Int))] wr rfl ⟨rfl,rfl,rfl,trivial⟩ (cw_seq (cw_seq ?_))
 by_cases him:i<k4
 · 
  refine cw_region (mv 2 rfl (pu (v:= .int .i64 ((k4:Nat):Int)) rfl (by kernel_rfl) (wl_cmp rfl rfl rfl true (cb_lt_t (a:=i) (b:=k4) rfl rfl (by omega)) (by decide) (ne_ (cw_true rfl (cw_skip (eo_then (cw_seq (cw_block (cw_seq ?_))))))))))
  have hxb:=Wfb_getD (b:=4294967296) (by decide) hwy i
  by_cases hp:i%2=0
  · 
   refine cw_region (mv 1 rfl (wl_ar rfl rfl rfl ((i%2:Nat):Int) (au_rem (a:=i) (b:=2) rfl rfl (by omega)) (by decide) (wl_cmp rfl rfl rfl true (cb_eq_t (a:=i%2) (b:=0) rfl rfl (by omega)) (by decide) (ne_ (cw_true rfl (cw_region (mv 2 rfl (wl_ar rfl rfl rfl ((i/2:Nat):Int) (ai_quo (a:=i) (b:=2) rfl rfl (by omega) (by omega)) (by decide) (mv 2 rfl ?_)))))))))
   obtain⟨p13,hp13,hc13,hv13⟩:=(rl0).at (i:=i) (by omega)
   refine wl_idx rfl rfl rfl un_u64 sz_u64 i rfl (by omega) p13 hp13 (by decide) (wl_load rfl rfl (load_cell1 ag_u64 hc13) (by decide) (wl_idx rfl rfl rfl un_u64 sz_u64 (i/2) rfl (by omega) ⟨g5,i/2,none⟩ (arr_at _ _) (by decide) ?_))
   have hb15:=hb
   refine wl_stored1 rfl rfl rfl sz_u64 rfl hb15 (len_map (by rw [hl];omega)) rfl ((l.set (i/2) (ys.getD i 0)).map W64) (map_W64_set _ _ _) fun v14 hb16 u17 hs18=>?_
   have hw2:=u17.ext hw1 ge10
   refine wl_nil (eo_block_normal (eo_then (cw_region (mv 1 rfl (wl_ar rfl rfl rfl ((i+1:Nat):Int) (ai_add (a:=i) (b:=1) rfl rfl (by omega)) (by decide) (mv 1 rfl (wl_nil (eo_round (⟨v14,i+1,_⟩:World×Nat×List Nat) ⟨hw2,(by omega),hb16,(len_set (l:=l) (hl)),hI.even hp (by omega) (by omega) hxb,(Rd.updL rl0 u17 ne12)⟩ (show k4-(i+1)<k4-i by omega) rfl ⟨rfl,rfl,rfl,trivial⟩))))))))
  · 
   have hob:=hI.o (by omega)
   refine cw_region (mv 1 rfl (wl_ar rfl rfl rfl ((i%2:Nat):Int) (au_rem (a:=i) (b:=2) rfl rfl (by omega)) (by decide) (wl_cmp rfl rfl rfl false (cb_eq_f (a:=i%2) (b:=0) rfl rfl (by omega)) (by decide) (ne_ (cw_false rfl (cw_keep [(0,.slice A k4 cap),(3,.slice (some ⟨g5,0,none⟩) ((k4+1)/2) ((k4+1)/2)),(4,.int .i64 ((i:Nat):Int)),(12,.int .i64 ((i:Nat):Int)),(13,.slice A k4 cap),(14,.int .i64 ((k4:Nat):Int)),(15,.bool true),(18,.int .i64 ((i:Nat):Int)),(19,.int .i64 ((i%2:Nat):Int)),(20,.bool false)] ⟨rfl,rfl,rfl,rfl,rfl,rfl,rfl,rfl,rfl,rfl,trivial⟩ ?_))))))
   obtain⟨v19,hv,e20⟩:∃v,v=wr.drew∧Ext wr v:=⟨_,rfl,(Ext.refl _).drew⟩
   have hw2:=hw1.trans e20
   obtain⟨p21,hp21,hc21,hv21⟩:=((rl0.ext e20)).at (i:=i) (by omega)
   have hb23:=(hb.ext e20)
   obtain⟨v22,hr27,hb24,u25,hs26⟩:=run_store1v (P:=Tryz.prog) (v:= .int .u64 (((l.getD (i/2) 0)+((ys.getD i 0)*4294967296):Nat):Int)) (off:=i/2) sz_u64 rfl hb23 (len_map (by rw [hl];omega)) rfl ((l.set (i/2) ((l.getD (i/2) 0)+((ys.getD i 0)*4294967296))).map W64) (map_W64_set _ _ _)
   have hw3:=u25.ext hw2 ge10
   refine cw_det mix (w:=v19) [.slice (some ⟨g5,0,none⟩) ((k4+1)/2) ((k4+1)/2),.int .i64 ((i:Nat):Int),.int .i64 ((i/2:Nat):Int),.slice (some ⟨g5,0,none⟩) ((k4+1)/2) ((k4+1)/2),.int .i64 ((i:Nat):Int),.int .i64 ((i/2:Nat):Int),.pointer (some (⟨g5,i/2,none⟩)),.int .u64 ((l.getD (i/2) 0:Nat):Int),.slice A k4 cap,.int .i64 ((i:Nat):Int),.pointer (some p21),.int .u64 ((ys.getD i 0:Nat):Int),.int .u64 (((ys.getD i 0)*4294967296:Nat):Int),.int .u64 (((l.getD (i/2) 0)+((ys.getD i 0)*4294967296):Nat):Int),.pointer (some (⟨g5,i/2,none⟩)),undef] [v19,v22] [15] [[],[],[1],[],[],[4],[3,5],[6],[],[],[8,9],[10],[11],[7,12],[0,2],[13,14]] [[],[],[1],[],[],[4],[3,4,5],[3,4,5,6],[],[],[8,9],[8,9,10],[8,9,10,11],[3,4,5,6,7,8,9,10,11,12],[0,1,2,3,4,5,6,7,8,9,10,11,12,13],[0,1,2,3,4,5,6,7,8,9,10,11,12,13,14]] [(0,0),(1,0),(2,0),(3,0),(4,0),(5,0),(6,0),(7,0),(8,0),(9,0),(10,0),(11,0),(12,0),(13,0),(14,0),(15,0)] rfl hv ?_ ?_
   · 
    refine dobs_val _ rfl rfl rfl rfl rfl (rd_move rfl) (dobs_val _ rfl rfl rfl rfl rfl (rd_move rfl) (dobs_val _ rfl rfl rfl rfl rfl (rd_ar rfl rfl ((i/2:Nat):Int) (ai_quo (a:=i) (b:=2) rfl rfl (by omega) (by omega))) (dobs_val _ rfl rfl rfl rfl rfl (rd_move rfl) (dobs_val _ rfl rfl rfl rfl rfl (rd_move rfl) (dobs_val _ rfl rfl rfl rfl rfl (rd_ar rfl rfl ((i/2:Nat):Int) (ai_quo (a:=i) (b:=2) rfl rfl (by omega) (by omega))) (dobs_val _ rfl rfl rfl rfl rfl (rd_idx rfl rfl un_u64 sz_u64 (i/2) rfl (by omega) ⟨g5,i/2,none⟩ (arr_at _ _)) (dobs_val _ rfl rfl rfl rfl rfl (rd_load rfl (load_word ag_u64 (hb.ext e20) (by rw [hl];omega))) (dobs_val _ rfl rfl rfl rfl rfl (rd_move rfl) (dobs_val _ rfl rfl rfl rfl rfl (rd_move rfl) (dobs_val _ rfl rfl rfl rfl rfl (rd_idx rfl rfl un_u64 sz_u64 i rfl (by omega) p21 hp21) (dobs_val _ rfl rfl rfl rfl rfl (rd_load rfl (load_cell1 ag_u64 hc21)) (dobs_val _ rfl rfl rfl rfl rfl (rd_ar rfl rfl (((ys.getD i 0)*4294967296:Nat):Int) (au_mul (a:=ys.getD i 0) (b:=4294967296) rfl rfl (by omega))) (dobs_val _ rfl rfl rfl rfl rfl (rd_ar rfl rfl (((l.getD (i/2) 0)+((ys.getD i 0)*4294967296):Nat):Int) (au_add (a:=l.getD (i/2) 0) (b:=(ys.getD i 0)*4294967296) rfl rfl (by omega))) ?_)))))))))))))
    refine dobs_val _ rfl rfl rfl rfl rfl (rd_idx rfl rfl un_u64 sz_u64 (i/2) rfl (by omega) ⟨g5,i/2,none⟩ (arr_at _ _)) (dobs_sto _ rfl rfl rfl rfl rfl (rd_store rfl rfl hr27) ?_)
    exact dobs_nil
   clear hv
   refine eo_keep [(0,.slice A k4 cap),(3,.slice (some ⟨g5,0,none⟩) ((k4+1)/2) ((k4+1)/2)),(4,.int .i64 ((i:Nat):Int)),(12,.int .i64 ((i:Nat):Int)),(13,.slice A k4 cap),(14,.int .i64 ((k4:Nat):Int)),(15,.bool true),(18,.int .i64 ((i:Nat):Int)),(19,.int .i64 ((i%2:Nat):Int)),(20,.bool false),(29,.slice (some ⟨g5,0,none⟩) ((k4+1)/2) ((k4+1)/2)),(30,.int .i64 ((i:Nat):Int)),(31,.int .i64 ((i/2:Nat):Int)),(32,.slice (some ⟨g5,0,none⟩) ((k4+1)/2) ((k4+1)/2)),(33,.int .i64 ((i:Nat):Int)),(34,.int .i64 ((i/2:Nat):Int)),(35,.pointer (some (⟨g5,i/2,none⟩))),(36,.int .u64 ((l.getD (i/2) 0:Nat):Int)),(37,.slice A k4 cap),(38,.int .i64 ((i:Nat):Int)),(39,.pointer (some p21)),(40,.int .u64 ((ys.getD i 0:Nat):Int)),(41,.int .u64 (((ys.getD i 0)*4294967296:Nat):Int)),(42,.int .u64 (((l.getD (i/2) 0)+((ys.getD i 0)*4294967296):Nat):Int)),(43,.pointer (some (⟨g5,i/2,none⟩)))] ⟨rfl,rfl,rfl,rfl,rfl,rfl,rfl,rfl,rfl,rfl,rfl,rfl,rfl,rfl,rfl,rfl,rfl,rfl,rfl,rfl,rfl,rfl,rfl,rfl,rfl,trivial⟩ (eo_block_normal (eo_then (cw_region (mv 1 rfl (wl_ar rfl rfl rfl ((i+1:Nat):Int) (ai_add (a:=i) (b:=1) rfl rfl (by omega)) (by decide) (mv 1 rfl (wl_nil (eo_round (⟨v22,i+1,_⟩:World×Nat×List Nat) ⟨hw3,(by omega),hb24,(len_set (l:=l) (hl)),hI.odd (by omega) (by omega) (by omega) hxb,(Rd.updL (rl0.ext e20) u25 ne12)⟩ (show k4-(i+1)<k4-i by omega) rfl ⟨rfl,rfl,rfl,trivial⟩))))))))
 · 
  refine cw_region (mv 2 rfl (pu (v:= .int .i64 ((k4:Nat):Int)) rfl (by kernel_rfl) (wl_cmp rfl rfl rfl false (cb_lt_f (a:=i) (b:=k4) rfl rfl (by omega)) (by decide) (ne_ (cw_false rfl (cw_exit (eo_thenX (eo_loopX (eo_block_here (eo_then (sr (mv 2 rfl (wl_nil ?_)))))))))))))
  refine eo_then (cw_ret (eo_ret [.slice (some ⟨g5,0,none⟩) ((k4+1)/2) ((k4+1)/2)] rfl ⟨rfl,trivial⟩ ?_))
  obtain rfl:k4=i:=by omega
  exact gw (Nat.le_refl _) _ _ (RetW_mk (ys:=l) ge10 hb hl (Nat.le_refl _) (by rw [len_maxLen];omega) (hI.done hly hl hvy hty) hw1)
def AR (b N m:Nat) (v:Value) (w:World):Prop:=∃g l,v= .slice (some ⟨g,0,none⟩) N N∧b≤g∧Bk w g 67 (l.map W64)∧l.length=N∧Wfb 4294967296 l∧nb 4294967296 l=m
theorem scaled_step {l xs:List Nat}{i c f:Nat}(hl:i<l.length) (hi:i<xs.length) (h:nb 4294967296 (l.take i)+4294967296^i*c=nb 4294967296 (xs.take i)*f):
  nb 4294967296 ((l.set i ((xs.getD i 0*f+c)%4294967296)).take (i+1))+4294967296^(i+1)*((xs.getD i 0*f+c)/4294967296)=nb 4294967296 (xs.take (i+1))*f:=by
 rw [nb_set_snoc 4294967296 hl,Nat.pow_succ,Nat.mul_assoc,Nat.add_assoc,←Nat.mul_add,Nat.mod_add_div,nb_take_snoc 4294967296 xs i hi,Nat.add_mul,←h,Nat.mul_add,Nat.mul_assoc]
 omega
set_option maxHeartbeats 4000000 in
theorem ref3_scaled {w:World}{A:Option Addr}{n cap:Nat}{xs:List Nat}(hx:Rd w A n cap xs) (hln:n≤274877906944) (hwx:Wfb 4294967296 xs){f:Nat}(hf:f≤4294967295):
    Calls Tryz.prog 197 #[.slice A n cap,.int .u64 ((f:Nat):Int)] w (Gv w (AR w.heap.size (n+1) (nb 4294967296 xs*f))):=by
 have hlen:=hx.len
 have hle:=hx.rv.le
 refine sx_enter Tryz.func197 rfl (n:=40) rfl (bq rfl) (args:= [.slice A n cap,.int .u64 ((f:Nat):Int)]) (cw_keep [(0,.slice A n cap),(1,.int .u64 ((f:Nat):Int))] ⟨rfl,rfl,trivial⟩ (sr (mv 1 rfl (ne_ (sr (mv 1 rfl (pu (v:= .int .i64 ((n:Nat):Int)) rfl (by kernel_rfl) (wl_ar rfl rfl rfl ((n+1:Nat):Int) (ai_add (a:=n) (b:=1) rfl rfl (by omega)) (by decide) (wl_make rfl (k:=n+1) rfl rfl rfl un_u64 info64 rfl (by decide) (by omega) (by decide) fun g1 v2 hg3 hb4 e5=>?_)))))))))
 rw [replicate_W64] at hb4
 have ge6:w.heap.size≤g1:=by rw [←hg3];exact (Ext.refl w).size
 have ne8:0<cap→∀a,A=some a→a.block≠g1:=fun hc a ha=>by have:=(hx).rv.blk a ha hc;omega
 clear hg3
 have hw1:=(Ext.refl w).trans e5
 refine mv 1 rfl (ne_ (sr (mv 1 rfl (ne_ (cw_seq (sr (mv 1 rfl (ne_ (cw_block ?_)))))))))
 refine cw_loop (T:=World×Nat×Nat×List Nat)
  (fun⟨wr,i,c,l⟩=> [(0,.slice A n cap),(1,.int .u64 ((f:Nat):Int)),(5,.slice (some ⟨g1,0,none⟩) (n+1) (n+1)),(6,.int .u64 ((c:Nat):Int)),(7,.int .i64 ((i:Nat):Int))])
  (fun⟨wr,i,c,l⟩=>wr)
  (fun⟨wr,i,c,l⟩=>(Ext w wr)∧(i≤n)∧(c≤4294967295)∧(Bk wr g1 67 (l.map W64))∧(l.length=n+1)∧(Wfb 4294967296 l)∧(nb 4294967296 (l.take i)+4294967296^i*c=nb 4294967296 (xs.take i)*f)∧(Rd wr A n cap xs))
  (fun⟨wr,i,c,l⟩=>n-i)
  (⟨v2,0,0,_⟩:World×Nat×Nat×List Nat) ⟨hw1,Nat.zero_le _,Nat.zero_le _,hb4,(List.length_replicate (n:=n+1) (a:=0)),Wfb_zeros (by decide) _,by simp [nb],(hx.ext e5)⟩ rfl ⟨rfl,rfl,rfl,rfl,rfl,trivial⟩ ?_
 rintro⟨wr,i,c,l⟩ ⟨hw1,hi,hc,hb,hl,hwf,hv,rl0⟩
 refine cw_re [(0,.slice A n cap),(1,.int .u64 ((f:Nat):Int)),(5,.slice (some ⟨g1,0,none⟩) (n+1) (n+1)),(6,.int .u64 ((c:Nat):Int)),(7,.int .i64 ((i:Nat):Int))] wr rfl ⟨rfl,rfl,rfl,rfl,rfl,trivial⟩ (cw_seq (cw_seq ?_))
 by_cases him:i<n
 · 
  refine cw_region (mv 2 rfl (pu (v:= .int .i64 ((n:Nat):Int)) rfl (by kernel_rfl) (wl_cmp rfl rfl rfl true (cb_lt_t (a:=i) (b:=n) rfl rfl (by omega)) (by decide) (ne_ (cw_true rfl (cw_skip (eo_then (cw_seq (cw_block (cw_seq ?_))))))))))
  have hxb:=Wfb_getD (b:=4294967296) (by decide) hwx i
  have hm:(xs.getD i 0)*f≤4294967295*4294967295:=Nat.mul_le_mul (by omega) hf
  refine cw_region (mv 2 rfl ?_)
  obtain⟨p9,hp9,hc9,hv9⟩:=(rl0).at (i:=i) (by omega)
  refine wl_idx rfl rfl rfl un_u64 sz_u64 i rfl (by omega) p9 hp9 (by decide) (wl_load rfl rfl (load_cell1 ag_u64 hc9) (by decide) (mv 1 rfl (wl_ar rfl rfl rfl (((xs.getD i 0)*f:Nat):Int) (au_mul (a:=xs.getD i 0) (b:=f) rfl rfl (by omega)) (by decide) (mv 1 rfl (wl_ar rfl rfl rfl ((((xs.getD i 0)*f)+c:Nat):Int) (au_add (a:=(xs.getD i 0)*f) (b:=c) rfl rfl (by omega)) (by decide) (mv 1 rfl (ne_ (sr (mv 3 rfl (wl_ar rfl rfl rfl (((((xs.getD i 0)*f)+c)%4294967296:Nat):Int) (au_rem (a:=((xs.getD i 0)*f)+c) (b:=4294967296) rfl rfl (by omega)) (by decide) (wl_idx rfl rfl rfl un_u64 sz_u64 i rfl (by omega) ⟨g1,i,none⟩ (arr_at _ _) (by decide) ?_)))))))))))
  have hb11:=hb
  refine wl_stored1 rfl rfl rfl sz_u64 rfl hb11 (len_map (by rw [hl];omega)) rfl ((l.set i ((((xs.getD i 0)*f)+c)%4294967296)).map W64) (map_W64_set _ _ _) fun v10 hb12 u13 hs14=>?_
  have hw2:=u13.ext hw1 ge6
  refine ne_ (cw_region (mv 1 rfl (wl_ar rfl rfl rfl (((((xs.getD i 0)*f)+c)/4294967296:Nat):Int) (au_quo (a:=((xs.getD i 0)*f)+c) (b:=4294967296) rfl rfl (by omega) (by omega)) (by decide) (mv 1 rfl (wl_nil (eo_block_normal (eo_then (cw_region (mv 1 rfl (wl_ar rfl rfl rfl ((i+1:Nat):Int) (ai_add (a:=i) (b:=1) rfl rfl (by omega)) (by decide) (mv 1 rfl (wl_nil (eo_round (⟨v10,i+1,_,_⟩:World×Nat×Nat×List Nat) ⟨hw2,(by omega),(by omega),hb12,(len_set (l:=l) (hl)),Wfb_set hwf _ (Nat.mod_lt _ (by decide)),scaled_step (by omega) (by omega) hv,(Rd.updL rl0 u13 ne8)⟩ (show n-(i+1)<n-i by omega) rfl ⟨rfl,rfl,rfl,rfl,rfl,trivial⟩)))))))))))))
 · 
  refine cw_region (mv 2 rfl (pu (v:= .int .i64 ((n:Nat):Int)) rfl (by kernel_rfl) (wl_cmp rfl rfl rfl false (cb_lt_f (a:=i) (b:=n) rfl rfl (by omega)) (by decide) (ne_ (cw_false rfl (cw_exit (eo_thenX (eo_loopX (eo_block_here (eo_then (cw_seq ?_)))))))))))
  obtain rfl:n=i:=by omega
  refine cw_region (mv 2 rfl (pu (v:= .int .i64 ((n:Nat):Int)) rfl (by kernel_rfl) (mv 1 rfl (wl_idx rfl rfl rfl un_u64 sz_u64 n rfl (by omega) ⟨g1,n,none⟩ (arr_at _ _) (by decide) ?_))))
  have hb16:=hb
  refine wl_stored1 rfl rfl rfl sz_u64 rfl hb16 (len_map (by rw [hl];omega)) rfl ((l.set n c).map W64) (map_W64_set _ _ _) fun v15 hb17 u18 hs19=>?_
  have hw2:=u18.ext hw1 ge6
  refine ne_ (sr (mv 2 rfl (ne_ (cw_ret (eo_ret [.slice (some ⟨g1,0,none⟩) (n+1) (n+1)] rfl ⟨rfl,trivial⟩ (⟨_,rfl,⟨_,_,rfl,ge6,hb17,(len_set (l:=l) (hl)),Wfb_set hwf _ (by omega),?_⟩,hw2⟩))))))
  have h2:=nb_set_snoc 4294967296 (l:=l) (i:=n) (by omega) c
  rw [List.take_of_length_le (by rw [List.length_set];omega)] at h2
  rw [h2,hv,List.take_of_length_le (by omega)]
def TK (g N q s:Nat) (l es:List Nat) (w:World) (e:Ending) (w':World):Prop:=
 e= .returned (.tuple #[])∧Upd g w w'∧∃l',Bk w' g 67 (l'.map W64)∧l'.length=N∧Wfb 4294967296 l'∧nb 4294967296 l'+q*nb 4294967296 es*4294967296^s=nb 4294967296 l
theorem takeOff_step {b:Nat}{l es:List Nat}{s i c q e T d d' c' Y:Nat}(h:nb b l+q*nb b (es.take i)*b^s=Y+b^(s+i)*c) (hk:s+i<l.length) (hd0:l.getD (s+i) 0=d) (hT:T=c+q*e) (he:nb b (es.take (i+1))=nb b (es.take i)+b^i*e)
  (hd:d'+T=d+b*c'):nb b (l.set (s+i) d')+q*nb b (es.take (i+1))*b^s=Y+b^(s+(i+1))*c':=by
 have h1:=nb_set b hk d'
 rw [hd0] at h1
 have e1:q*nb b (es.take (i+1))*b^s=q*nb b (es.take i)*b^s+b^(s+i)*(q*e):=by
  rw [he,Nat.mul_add,Nat.add_mul,Nat.pow_add]
  congr 1
  grind
 have e2:b^(s+i)*(d'+T)=b^(s+i)*(d+b*c'):=by rw [hd]
 have e3:b^(s+(i+1))*c'=b^(s+i)*(b*c'):=by rw [←Nat.add_assoc,Nat.pow_succ,Nat.mul_assoc]
 rw [hT] at e2
 simp only [Nat.mul_add] at e2
 rw [e1,e3]
 omega
theorem takeOff_more {b:Nat}{es:List Nat}{i:Nat}(h:es.length≤i):nb b (es.take (i+1))=nb b (es.take i)+b^i*0:=by
 rw [List.take_of_length_le (by omega),List.take_of_length_le h];rfl
theorem takeOff_done {l l' es:List Nat}{N s i m c q:Nat}(hw:Wfb 4294967296 l') (hl:l'.length=N) (he:es.length=m) (hs:s+m≤N) (hi:s+i≤N) (hq:q*nb 4294967296 es*4294967296^s≤nb 4294967296 l)
  (h:nb 4294967296 l'+q*nb 4294967296 (es.take i)*4294967296^s=nb 4294967296 l+4294967296^(s+i)*c) (hend:s+i=N∨m≤i∧c=0):nb 4294967296 l'+q*nb 4294967296 es*4294967296^s=nb 4294967296 l:=by
 have hmi:m≤i:=by omega
 rw [List.take_of_length_le (by omega)] at h
 have hc:c=0:=by
  rcases hend with h1 | h1
  ·have h2:=nb_lt hw
   rw [hl] at h2
   rw [h1] at h
   refine Nat.eq_zero_of_not_pos fun hp=>?_
   have h3:4294967296^N*1≤4294967296^N*c:=Nat.mul_le_mul_left _ hp
   omega
  ·exact h1.2
 rw [hc,Nat.mul_zero,Nat.add_zero] at h
 exact h
set_option maxHeartbeats 4000000 in
theorem ref3_takeOff {w:World}{g N m cd q s:Nat}{D:Option Addr}{l es:List Nat}(hb0:Bk w g 67 (l.map W64)) (hl0:l.length=N) (hN:N≤1099511627776) (hwl:Wfb 4294967296 l) (hy:Rd w D m cd es) (hwe:Wfb 4294967296 es) (hne:0<cd→∀a,D=some a→a.block≠g) (hqb:q<4294967296) (hs:s+m≤N) (hq:q*nb 4294967296 es*4294967296^s≤nb 4294967296 l):
    Calls Tryz.prog 187 #[.slice (some ⟨g,0,none⟩) N N,.slice D m cd,.int .u64 ((q:Nat):Int),.int .i64 ((s:Nat):Int)] w (TK g N q s l es w):=by
 have hle:=hy.len
 refine sx_enter Tryz.func187 rfl (n:=84) rfl (bq rfl) (args:= [.slice (some ⟨g,0,none⟩) N N,.slice D m cd,.int .u64 ((q:Nat):Int),.int .i64 ((s:Nat):Int)]) (cw_keep [(0,.slice (some ⟨g,0,none⟩) N N),(1,.slice D m cd),(2,.int .u64 ((q:Nat):Int)),(3,.int .i64 ((s:Nat):Int))] ⟨rfl,rfl,rfl,rfl,trivial⟩ (sr (mv 1 rfl (ne_ (sr (mv 1 rfl (ne_ (cw_block ?_))))))))
 refine cw_loop (T:=World×Nat×Nat×List Nat)
  (fun⟨wr,i,c,l'⟩=> [(0,.slice (some ⟨g,0,none⟩) N N),(1,.slice D m cd),(2,.int .u64 ((q:Nat):Int)),(3,.int .i64 ((s:Nat):Int)),(8,.int .u64 ((c:Nat):Int)),(9,.int .i64 ((i:Nat):Int))])
  (fun⟨wr,i,c,l'⟩=>wr)
  (fun⟨wr,i,c,l'⟩=>(Upd g w wr)∧(s+i≤N)∧(c≤4294967296)∧(Bk wr g 67 (l'.map W64))∧(l'.length=N)∧(Wfb 4294967296 l')∧(nb 4294967296 l'+q*nb 4294967296 (es.take i)*4294967296^s=nb 4294967296 l+4294967296^(s+i)*c)∧(Rd wr D m cd es))
  (fun⟨wr,i,c,l'⟩=>N-(s+i))
  (⟨w,0,0,l⟩:World×Nat×Nat×List Nat) ⟨Upd.refl g w,(by omega),(by decide),hb0,hl0,hwl,by simp [nb],hy⟩ rfl ⟨rfl,rfl,rfl,rfl,rfl,rfl,trivial⟩ ?_
 rintro⟨wr,i,c,l'⟩ ⟨hu,hi,hc,hb,hl,hwf,hv,rl1⟩
 refine cw_re [(0,.slice (some ⟨g,0,none⟩) N N),(1,.slice D m cd),(2,.int .u64 ((q:Nat):Int)),(3,.int .i64 ((s:Nat):Int)),(8,.int .u64 ((c:Nat):Int)),(9,.int .i64 ((i:Nat):Int))] wr rfl ⟨rfl,rfl,rfl,rfl,rfl,rfl,trivial⟩ (cw_seq (cw_seq ?_))
 by_cases hsi:s+i<N
 · 
  by_cases him:i<m
  · 
   refine cw_region (mv 2 rfl (wl_ar rfl rfl rfl ((s+i:Nat):Int) (ai_add (a:=s) (b:=i) rfl rfl (by omega)) (by decide) (mv 1 rfl (pu (v:= .int .i64 ((N:Nat):Int)) rfl (by kernel_rfl) (wl_cmp rfl rfl rfl true (cb_lt_t (a:=s+i) (b:=N) rfl rfl (by omega)) (by decide) (mv 3 rfl (pu (v:= .int .i64 ((m:Nat):Int)) rfl (by kernel_rfl) (wl_cmp rfl rfl rfl true (cb_lt_t (a:=i) (b:=m) rfl rfl (by omega)) (by decide) (mv 3 rfl (pu (v:= .bool true) rfl (by kernel_rfl) (pu (v:= .bool true) rfl (by kernel_rfl) (ne_ (cw_true rfl ?_)))))))))))))
   refine cw_skip (eo_then (cw_seq (cw_block (sr (mv 2 rfl (ne_ (cw_seq (sr (mv 2 rfl (pu (v:= .int .i64 ((m:Nat):Int)) rfl (by kernel_rfl) (wl_cmp rfl rfl rfl true (cb_lt_t (a:=i) (b:=m) rfl rfl (by omega)) (by decide) (ne_ (cw_true rfl ?_)))))))))))))
   have hey:=Wfb_getD (b:=4294967296) (by decide) hwe i
   have hm:q*(es.getD i 0)≤4294967295*4294967295:=Nat.mul_le_mul (by omega) (by omega)
   refine cw_region (mv 4 rfl ?_)
   obtain⟨p1,hp1,hc1,hv1⟩:=(rl1).at (i:=i) (by omega)
   refine wl_idx rfl rfl rfl un_u64 sz_u64 i rfl (by omega) p1 hp1 (by decide) (wl_load rfl rfl (load_cell1 ag_u64 hc1) (by decide) (wl_ar rfl rfl rfl ((q*(es.getD i 0):Nat):Int) (au_mul (a:=q) (b:=es.getD i 0) rfl rfl (by omega)) (by decide) (wl_ar rfl rfl rfl ((c+(q*(es.getD i 0)):Nat):Int) (au_add (a:=c) (b:=q*(es.getD i 0)) rfl rfl (by omega)) (by decide) (mv 1 rfl (ne_ (sr (mv 1 rfl (wl_ar rfl rfl rfl (((c+(q*(es.getD i 0)))%4294967296:Nat):Int) (au_rem (a:=c+(q*(es.getD i 0))) (b:=4294967296) rfl rfl (by omega)) (by decide) (mv 1 rfl (ne_ (sr (mv 1 rfl (wl_ar rfl rfl rfl (((c+(q*(es.getD i 0)))/4294967296:Nat):Int) (au_quo (a:=c+(q*(es.getD i 0))) (b:=4294967296) rfl rfl (by omega) (by omega)) (by decide) ?_)))))))))))))
   refine mv 1 rfl (ne_ (cw_seq ?_))
   have hd:=Wfb_getD (b:=4294967296) (by decide) hwf (s+i)
   by_cases hlow:l'.getD (s+i) 0<(c+(q*(es.getD i 0)))%4294967296
   · 
    refine cw_region (mv 3 rfl (wl_ar rfl rfl rfl ((s+i:Nat):Int) (ai_add (a:=s) (b:=i) rfl rfl (by omega)) (by decide) (wl_idx rfl rfl rfl un_u64 sz_u64 (s+i) rfl (by omega) ⟨g,s+i,none⟩ (arr_at _ _) (by decide) (wl_load rfl rfl (load_word ag_u64 hb (by rw [hl];omega)) (by decide) (mv 1 rfl (wl_cmp rfl rfl rfl true (cb_lt_t (a:=l'.getD (s+i) 0) (b:=(c+(q*(es.getD i 0)))%4294967296) rfl rfl (by omega)) (by decide) (ne_ (cw_true rfl (sr (mv 3 rfl (wl_ar rfl rfl rfl ((s+i:Nat):Int) (ai_add (a:=s) (b:=i) rfl rfl (by omega)) (by decide) (mv 3 rfl (wl_ar rfl rfl rfl ((s+i:Nat):Int) (ai_add (a:=s) (b:=i) rfl rfl (by omega)) (by decide) ?_)))))))))))))
    refine wl_idx rfl rfl rfl un_u64 sz_u64 (s+i) rfl (by omega) ⟨g,s+i,none⟩ (arr_at _ _) (by decide) (wl_load rfl rfl (load_word ag_u64 hb (by rw [hl];omega)) (by decide) (wl_ar rfl rfl rfl (((l'.getD (s+i) 0)+4294967296:Nat):Int) (au_add (a:=l'.getD (s+i) 0) (b:=4294967296) rfl rfl (by omega)) (by decide) (mv 1 rfl (wl_ar rfl rfl rfl ((((l'.getD (s+i) 0)+4294967296)-((c+(q*(es.getD i 0)))%4294967296):Nat):Int) (au_sub (a:=(l'.getD (s+i) 0)+4294967296) (b:=(c+(q*(es.getD i 0)))%4294967296) rfl rfl (by omega) (by omega)) (by decide) (wl_idx rfl rfl rfl un_u64 sz_u64 (s+i) rfl (by omega) ⟨g,s+i,none⟩ (arr_at _ _) (by decide) ?_)))))
    have hb3:=hb
    refine wl_stored1 rfl rfl rfl sz_u64 rfl hb3 (len_map (by rw [hl];omega)) rfl ((l'.set (s+i) (((l'.getD (s+i) 0)+4294967296)-((c+(q*(es.getD i 0)))%4294967296))).map W64) (map_W64_set _ _ _) fun v2 hb4 u5 hs6=>(ne_ (cw_region (mv 1 rfl (wl_ar rfl rfl rfl ((((c+(q*(es.getD i 0)))/4294967296)+1:Nat):Int) (au_add (a:=(c+(q*(es.getD i 0)))/4294967296) (b:=1) rfl rfl (by omega)) (by decide) (mv 1 rfl (wl_nil (eo_block_normal (eo_then (cw_region (mv 1 rfl (wl_ar rfl rfl rfl ((i+1:Nat):Int) (ai_add (a:=i) (b:=1) rfl rfl (by omega)) (by decide) (mv 1 rfl (wl_nil ?_)))))))))))))
    refine eo_round (⟨v2,i+1,_,_⟩:World×Nat×Nat×List Nat) ⟨hu.trans u5,(by omega),(by omega),hb4,(len_set (l:=l') (hl)),Wfb_set hwf _ (by omega),takeOff_step hv (by omega) rfl rfl (nb_take_snoc _ _ _ (by omega)) (by omega),(Rd.updL rl1 u5 hne)⟩ (show N-(s+(i+1))<N-(s+i) by omega) rfl ⟨rfl,rfl,rfl,rfl,rfl,rfl,trivial⟩
   · 
    refine cw_region (mv 3 rfl (wl_ar rfl rfl rfl ((s+i:Nat):Int) (ai_add (a:=s) (b:=i) rfl rfl (by omega)) (by decide) (wl_idx rfl rfl rfl un_u64 sz_u64 (s+i) rfl (by omega) ⟨g,s+i,none⟩ (arr_at _ _) (by decide) (wl_load rfl rfl (load_word ag_u64 hb (by rw [hl];omega)) (by decide) (mv 1 rfl (wl_cmp rfl rfl rfl false (cb_lt_f (a:=l'.getD (s+i) 0) (b:=(c+(q*(es.getD i 0)))%4294967296) rfl rfl (by omega)) (by decide) (ne_ (cw_false rfl (cw_region (mv 3 rfl (wl_ar rfl rfl rfl ((s+i:Nat):Int) (ai_add (a:=s) (b:=i) rfl rfl (by omega)) (by decide) (mv 3 rfl (wl_ar rfl rfl rfl ((s+i:Nat):Int) (ai_add (a:=s) (b:=i) rfl rfl (by omega)) (by decide) ?_)))))))))))))
    refine wl_idx rfl rfl rfl un_u64 sz_u64 (s+i) rfl (by omega) ⟨g,s+i,none⟩ (arr_at _ _) (by decide) (wl_load rfl rfl (load_word ag_u64 hb (by rw [hl];omega)) (by decide) (mv 1 rfl (wl_ar rfl rfl rfl (((l'.getD (s+i) 0)-((c+(q*(es.getD i 0)))%4294967296):Nat):Int) (au_sub (a:=l'.getD (s+i) 0) (b:=(c+(q*(es.getD i 0)))%4294967296) rfl rfl (by omega) (by omega)) (by decide) (wl_idx rfl rfl rfl un_u64 sz_u64 (s+i) rfl (by omega) ⟨g,s+i,none⟩ (arr_at _ _) (by decide) ?_))))
    have hb8:=hb
    refine wl_stored1 rfl rfl rfl sz_u64 rfl hb8 (len_map (by rw [hl];omega)) rfl ((l'.set (s+i) ((l'.getD (s+i) 0)-((c+(q*(es.getD i 0)))%4294967296))).map W64) (map_W64_set _ _ _) fun v7 hb9 u10 hs11=>(wl_nil (eo_block_normal (eo_then (cw_region (mv 1 rfl (wl_ar rfl rfl rfl ((i+1:Nat):Int) (ai_add (a:=i) (b:=1) rfl rfl (by omega)) (by decide) (mv 1 rfl (wl_nil (eo_round (⟨v7,i+1,_,_⟩:World×Nat×Nat×List Nat) ⟨hu.trans u10,(by omega),(by omega),hb9,(len_set (l:=l') (hl)),Wfb_set hwf _ (by omega),takeOff_step hv (by omega) rfl rfl (nb_take_snoc _ _ _ (by omega)) (by omega),(Rd.updL rl1 u10 hne)⟩ (show N-(s+(i+1))<N-(s+i) by omega) rfl ⟨rfl,rfl,rfl,rfl,rfl,rfl,trivial⟩)))))))))
  · 
   by_cases hcp:c>0
   · 
    refine cw_region (mv 2 rfl (wl_ar rfl rfl rfl ((s+i:Nat):Int) (ai_add (a:=s) (b:=i) rfl rfl (by omega)) (by decide) (mv 1 rfl (pu (v:= .int .i64 ((N:Nat):Int)) rfl (by kernel_rfl) (wl_cmp rfl rfl rfl true (cb_lt_t (a:=s+i) (b:=N) rfl rfl (by omega)) (by decide) (mv 3 rfl (pu (v:= .int .i64 ((m:Nat):Int)) rfl (by kernel_rfl) (wl_cmp rfl rfl rfl false (cb_lt_f (a:=i) (b:=m) rfl rfl (by omega)) (by decide) (mv 2 rfl (wl_cmp rfl rfl rfl true (cb_gt_t (a:=c) (b:=0) rfl rfl (by omega)) (by decide) (pu (v:= .bool true) rfl (by kernel_rfl) (pu (v:= .bool true) rfl (by kernel_rfl) (wl_nil ?_)))))))))))))
    refine eo_then (cw_true rfl (cw_skip (eo_then (cw_seq (cw_block (sr (mv 2 rfl (ne_ (cw_seq (sr (mv 2 rfl (pu (v:= .int .i64 ((m:Nat):Int)) rfl (by kernel_rfl) (wl_cmp rfl rfl rfl false (cb_lt_f (a:=i) (b:=m) rfl rfl (by omega)) (by decide) ?_)))))))))))))
    refine ne_ (cw_false rfl (cw_skip (eo_then (sr (mv 1 rfl (wl_ar rfl rfl rfl ((c%4294967296:Nat):Int) (au_rem (a:=c) (b:=4294967296) rfl rfl (by omega)) (by decide) (mv 1 rfl (ne_ (sr (mv 1 rfl (wl_ar rfl rfl rfl ((c/4294967296:Nat):Int) (au_quo (a:=c) (b:=4294967296) rfl rfl (by omega) (by omega)) (by decide) (mv 1 rfl (wl_nil ?_)))))))))))))
    refine eo_then (cw_seq ?_)
    have hd:=Wfb_getD (b:=4294967296) (by decide) hwf (s+i)
    by_cases hlow:l'.getD (s+i) 0<c%4294967296
    · 
     refine cw_region (mv 3 rfl (wl_ar rfl rfl rfl ((s+i:Nat):Int) (ai_add (a:=s) (b:=i) rfl rfl (by omega)) (by decide) (wl_idx rfl rfl rfl un_u64 sz_u64 (s+i) rfl (by omega) ⟨g,s+i,none⟩ (arr_at _ _) (by decide) (wl_load rfl rfl (load_word ag_u64 hb (by rw [hl];omega)) (by decide) (mv 1 rfl (wl_cmp rfl rfl rfl true (cb_lt_t (a:=l'.getD (s+i) 0) (b:=c%4294967296) rfl rfl (by omega)) (by decide) (ne_ (cw_true rfl (sr (mv 3 rfl (wl_ar rfl rfl rfl ((s+i:Nat):Int) (ai_add (a:=s) (b:=i) rfl rfl (by omega)) (by decide) (mv 3 rfl (wl_ar rfl rfl rfl ((s+i:Nat):Int) (ai_add (a:=s) (b:=i) rfl rfl (by omega)) (by decide) ?_)))))))))))))
     refine wl_idx rfl rfl rfl un_u64 sz_u64 (s+i) rfl (by omega) ⟨g,s+i,none⟩ (arr_at _ _) (by decide) (wl_load rfl rfl (load_word ag_u64 hb (by rw [hl];omega)) (by decide) (wl_ar rfl rfl rfl (((l'.getD (s+i) 0)+4294967296:Nat):Int) (au_add (a:=l'.getD (s+i) 0) (b:=4294967296) rfl rfl (by omega)) (by decide) (mv 1 rfl (wl_ar rfl rfl rfl ((((l'.getD (s+i) 0)+4294967296)-(c%4294967296):Nat):Int) (au_sub (a:=(l'.getD (s+i) 0)+4294967296) (b:=c%4294967296) rfl rfl (by omega) (by omega)) (by decide) (wl_idx rfl rfl rfl un_u64 sz_u64 (s+i) rfl (by omega) ⟨g,s+i,none⟩ (arr_at _ _) (by decide) ?_)))))
     have hb13:=hb
     refine wl_stored1 rfl rfl rfl sz_u64 rfl hb13 (len_map (by rw [hl];omega)) rfl ((l'.set (s+i) (((l'.getD (s+i) 0)+4294967296)-(c%4294967296))).map W64) (map_W64_set _ _ _) fun v12 hb14 u15 hs16=>(ne_ (cw_region (mv 1 rfl (wl_ar rfl rfl rfl (((c/4294967296)+1:Nat):Int) (au_add (a:=c/4294967296) (b:=1) rfl rfl (by omega)) (by decide) (mv 1 rfl (wl_nil (eo_block_normal (eo_then (cw_region (mv 1 rfl (wl_ar rfl rfl rfl ((i+1:Nat):Int) (ai_add (a:=i) (b:=1) rfl rfl (by omega)) (by decide) (mv 1 rfl (wl_nil ?_)))))))))))))
     refine eo_round (⟨v12,i+1,_,_⟩:World×Nat×Nat×List Nat) ⟨hu.trans u15,(by omega),(by omega),hb14,(len_set (l:=l') (hl)),Wfb_set hwf _ (by omega),takeOff_step hv (by omega) rfl (T:=c) (e:=0) (by simp) (takeOff_more (by omega)) (by omega),(Rd.updL rl1 u15 hne)⟩ (show N-(s+(i+1))<N-(s+i) by omega) rfl ⟨rfl,rfl,rfl,rfl,rfl,rfl,trivial⟩
    · 
     refine cw_region (mv 3 rfl (wl_ar rfl rfl rfl ((s+i:Nat):Int) (ai_add (a:=s) (b:=i) rfl rfl (by omega)) (by decide) (wl_idx rfl rfl rfl un_u64 sz_u64 (s+i) rfl (by omega) ⟨g,s+i,none⟩ (arr_at _ _) (by decide) (wl_load rfl rfl (load_word ag_u64 hb (by rw [hl];omega)) (by decide) (mv 1 rfl (wl_cmp rfl rfl rfl false (cb_lt_f (a:=l'.getD (s+i) 0) (b:=c%4294967296) rfl rfl (by omega)) (by decide) (ne_ (cw_false rfl (cw_region (mv 3 rfl (wl_ar rfl rfl rfl ((s+i:Nat):Int) (ai_add (a:=s) (b:=i) rfl rfl (by omega)) (by decide) (mv 3 rfl (wl_ar rfl rfl rfl ((s+i:Nat):Int) (ai_add (a:=s) (b:=i) rfl rfl (by omega)) (by decide) ?_)))))))))))))
     refine wl_idx rfl rfl rfl un_u64 sz_u64 (s+i) rfl (by omega) ⟨g,s+i,none⟩ (arr_at _ _) (by decide) (wl_load rfl rfl (load_word ag_u64 hb (by rw [hl];omega)) (by decide) (mv 1 rfl (wl_ar rfl rfl rfl (((l'.getD (s+i) 0)-(c%4294967296):Nat):Int) (au_sub (a:=l'.getD (s+i) 0) (b:=c%4294967296) rfl rfl (by omega) (by omega)) (by decide) (wl_idx rfl rfl rfl un_u64 sz_u64 (s+i) rfl (by omega) ⟨g,s+i,none⟩ (arr_at _ _) (by decide) ?_))))
     have hb18:=hb
     refine wl_stored1 rfl rfl rfl sz_u64 rfl hb18 (len_map (by rw [hl];omega)) rfl ((l'.set (s+i) ((l'.getD (s+i) 0)-(c%4294967296))).map W64) (map_W64_set _ _ _) fun v17 hb19 u20 hs21=>(wl_nil (eo_block_normal (eo_then (cw_region (mv 1 rfl (wl_ar rfl rfl rfl ((i+1:Nat):Int) (ai_add (a:=i) (b:=1) rfl rfl (by omega)) (by decide) (mv 1 rfl (wl_nil (eo_round (⟨v17,i+1,_,_⟩:World×Nat×Nat×List Nat) ⟨hu.trans u20,(by omega),(by omega),hb19,(len_set (l:=l') (hl)),Wfb_set hwf _ (by omega),takeOff_step hv (by omega) rfl (T:=c) (e:=0) (by simp) (takeOff_more (by omega)) (by omega),(Rd.updL rl1 u20 hne)⟩ (show N-(s+(i+1))<N-(s+i) by omega) rfl ⟨rfl,rfl,rfl,rfl,rfl,rfl,trivial⟩)))))))))
   · 
    refine cw_region (mv 2 rfl (wl_ar rfl rfl rfl ((s+i:Nat):Int) (ai_add (a:=s) (b:=i) rfl rfl (by omega)) (by decide) (mv 1 rfl (pu (v:= .int .i64 ((N:Nat):Int)) rfl (by kernel_rfl) (wl_cmp rfl rfl rfl true (cb_lt_t (a:=s+i) (b:=N) rfl rfl (by omega)) (by decide) (mv 3 rfl (pu (v:= .int .i64 ((m:Nat):Int)) rfl (by kernel_rfl) (wl_cmp rfl rfl rfl false (cb_lt_f (a:=i) (b:=m) rfl rfl (by omega)) (by decide) (mv 2 rfl (wl_cmp rfl rfl rfl false (cb_gt_f (a:=c) (b:=0) rfl rfl (by omega)) (by decide) (pu (v:= .bool false) rfl (by kernel_rfl) (pu (v:= .bool false) rfl (by kernel_rfl) (wl_nil ?_)))))))))))))
    refine eo_then (cw_false rfl (cw_exit (eo_thenX (eo_loopX (eo_block_here (eo_end [] rfl trivial ?_))))))
    exact⟨rfl,hu,l',hb,hl,hwf,takeOff_done hwf hl hle hs hi hq hv (Or.inr ⟨by omega,by omega⟩)⟩
 · 
  refine cw_region (mv 2 rfl (wl_ar rfl rfl rfl ((s+i:Nat):Int) (ai_add (a:=s) (b:=i) rfl rfl (by omega)) (by decide) (mv 1 rfl (pu (v:= .int .i64 ((N:Nat):Int)) rfl (by kernel_rfl) (wl_cmp rfl rfl rfl false (cb_lt_f (a:=s+i) (b:=N) rfl rfl (by omega)) (by decide) (mv 9 rfl (pu (v:= .bool false) rfl (by kernel_rfl) (ne_ (cw_false rfl (cw_exit (eo_thenX (eo_loopX (eo_block_here ?_)))))))))))))
  refine eo_end [] rfl trivial ?_
  exact⟨rfl,hu,l',hb,hl,hwf,takeOff_done hwf hl hle hs hi hq hv (Or.inl (by omega))⟩
theorem drop_getD3 {xs:List Nat}{k:Nat}(h:k<xs.length) (b:Nat):nb b (xs.drop k)=xs.getD k 0+b*nb b (xs.drop (k+1)):=by
 rw [List.drop_eq_getElem_cons h,nb_cons,List.getD_eq_getElem?_getD,List.getElem?_eq_getElem h];rfl
section
set_option linter.unusedSectionVars false
variable {xs es:List Nat}{n m s:Nat}(hx:xs.length=n) (he:es.length=m) (hs:s+m≤n) (hwx:Wfb 4294967296 xs) (hwe:Wfb 4294967296 es)
include hx he hs hwx hwe
theorem goes_start (hbig:nb 4294967296 xs<4294967296^(s+m+1)) (h0:s+m<n→xs.getD (s+m) 0=0):nb 4294967296 (xs.drop (s+m))=nb 4294967296 (es.drop m):=by
 rw [List.drop_of_length_le (l:=es) (by omega),nb_nil]
 by_cases hlt:s+m<n
 ·have h1:=nb_split 4294967296 xs (s+m) (by omega)
  have h2:=drop_getD3 (xs:=xs) (k:=s+m) (by omega) 4294967296
  rw [h0 hlt,Nat.zero_add] at h2
  rw [h2] at h1⊢
  refine Nat.mul_eq_zero.2 (Or.inr (Nat.eq_zero_of_not_pos fun hp=>?_))
  rw [Nat.pow_succ,←Nat.mul_assoc] at*
  have h3:4294967296^(s+m)*4294967296*1≤4294967296^(s+m)*4294967296*nb 4294967296 (xs.drop (s+m+1)):=Nat.mul_le_mul_left _ hp
  omega
 ·rw [List.drop_of_length_le (by omega),nb_nil]
theorem goes_top (h0:s+m<n) (hp:0<xs.getD (s+m) 0):nb 4294967296 es*4294967296^s≤nb 4294967296 xs:=by
 have h1:=nb_split 4294967296 xs (s+m) (by omega)
 have h2:=drop_getD3 (xs:=xs) (k:=s+m) (by omega) 4294967296
 have h3:=nb_lt hwe
 rw [he] at h3
 have h4:nb 4294967296 es*4294967296^s≤4294967296^m*4294967296^s:=Nat.mul_le_mul_right _ (Nat.le_of_lt h3)
 rw [←Nat.pow_add,Nat.add_comm m s] at h4
 have h5:4294967296^(s+m)*1≤4294967296^(s+m)*nb 4294967296 (xs.drop (s+m)):=Nat.mul_le_mul_left _ (by omega)
 omega
theorem goes_lt {j:Nat}(hj:j<m) (h:nb 4294967296 (xs.drop (s+(j+1)))=nb 4294967296 (es.drop (j+1))) (hd:xs.getD (s+j) 0<es.getD j 0):¬nb 4294967296 es*4294967296^s≤nb 4294967296 xs:=by
 have h2:=drop_getD3 (xs:=xs) (k:=s+j) (by omega) 4294967296
 have h3:=drop_getD3 (xs:=es) (k:=j) (by omega) 4294967296
 rw [Nat.add_assoc,h] at h2
 have h4:=nb_split 4294967296 xs (s+j) (by omega)
 have h5:=nb_split 4294967296 es j (by omega)
 have h6:=nb_take_lt (by decide) hwx (s+j)
 have h7:4294967296^(s+j)*(nb 4294967296 (xs.drop (s+j))+1)≤4294967296^(s+j)*nb 4294967296 (es.drop j):=Nat.mul_le_mul_left _ (by omega)
 have h8:4294967296^(s+j)*nb 4294967296 (es.drop j)≤nb 4294967296 es*4294967296^s:=by
  rw [h5,Nat.add_mul,Nat.pow_add,Nat.mul_assoc,Nat.mul_comm (4294967296^s)]
  exact Nat.le_add_left _ _
 rw [Nat.mul_add] at h7
 omega
theorem goes_gt {j:Nat}(hj:j<m) (h:nb 4294967296 (xs.drop (s+(j+1)))=nb 4294967296 (es.drop (j+1))) (hd:xs.getD (s+j) 0>es.getD j 0):nb 4294967296 es*4294967296^s≤nb 4294967296 xs:=by
 have h2:=drop_getD3 (xs:=xs) (k:=s+j) (by omega) 4294967296
 have h3:=drop_getD3 (xs:=es) (k:=j) (by omega) 4294967296
 rw [Nat.add_assoc,h] at h2
 have h4:=nb_split 4294967296 xs (s+j) (by omega)
 have h5:=nb_split 4294967296 es j (by omega)
 have h6:=nb_take_lt (by decide) hwe j
 have h7:4294967296^j*(nb 4294967296 (es.drop j)+1)≤4294967296^j*nb 4294967296 (xs.drop (s+j)):=Nat.mul_le_mul_left _ (by omega)
 rw [Nat.mul_add] at h7
 have h8:nb 4294967296 es≤4294967296^j*nb 4294967296 (xs.drop (s+j)):=by omega
 have h9:nb 4294967296 es*4294967296^s≤4294967296^j*nb 4294967296 (xs.drop (s+j))*4294967296^s:=Nat.mul_le_mul_right _ h8
 have e:4294967296^j*nb 4294967296 (xs.drop (s+j))*4294967296^s=4294967296^(s+j)*nb 4294967296 (xs.drop (s+j)):=by
  rw [Nat.pow_add,Nat.mul_right_comm,Nat.mul_comm (4294967296^j)]
 omega
theorem goes_eq (h:nb 4294967296 (xs.drop (s+0))=nb 4294967296 (es.drop 0)):nb 4294967296 es*4294967296^s≤nb 4294967296 xs:=by
 have h4:=nb_split 4294967296 xs s (by omega)
 rw [Nat.add_zero,List.drop_zero] at h
 rw [h4,h,Nat.mul_comm]
 exact Nat.le_add_left _ _
theorem goes_step {j:Nat}(hj:j<m) (h:nb 4294967296 (xs.drop (s+(j+1)))=nb 4294967296 (es.drop (j+1))) (hd:xs.getD (s+j) 0=es.getD j 0):nb 4294967296 (xs.drop (s+j))=nb 4294967296 (es.drop j):=by
 rw [drop_getD3 (xs:=xs) (k:=s+j) (by omega),drop_getD3 (xs:=es) (k:=j) (by omega),Nat.add_assoc,h,hd]
end
set_option maxHeartbeats 4000000 in
theorem ref3_goes {w:World}{A D:Option Addr}{n cap m cd s:Nat}{xs es:List Nat}(hx:Rd w A n cap xs) (hln:n≤1099511627776) (hy:Rd w D m cd es) (hwx:Wfb 4294967296 xs) (hwe:Wfb 4294967296 es) (hs:s+m≤n) (hbig:nb 4294967296 xs<4294967296^(s+m+1)):
    Calls Tryz.prog 198 #[.slice A n cap,.slice D m cd,.int .i64 ((s:Nat):Int)] w (Gv w (Is (.bool (decide (nb 4294967296 es*4294967296^s≤nb 4294967296 xs))))):=by
 have hlen:=hx.len
 have hle:=hx.rv.le
 have hle2:=hy.len
 refine sx_enter Tryz.func198 rfl (n:=53) rfl (bq rfl) (args:= [.slice A n cap,.slice D m cd,.int .i64 ((s:Nat):Int)]) (cw_keep [(0,.slice A n cap),(1,.slice D m cd),(2,.int .i64 ((s:Nat):Int))] ⟨rfl,rfl,rfl,trivial⟩ (sr (mv 1 rfl (ne_ (sr (mv 2 rfl (pu (v:= .int .i64 ((m:Nat):Int)) rfl (by kernel_rfl) (wl_ar rfl rfl rfl ((s+m:Nat):Int) (ai_add (a:=s) (b:=m) rfl rfl (by omega)) (by decide) (mv 1 rfl (ne_ (cw_seq (cw_seq ?_))))))))))))
 by_cases htop:s+m<n
 · 
  by_cases hpos:xs.getD (s+m) 0>0
  · 
   refine cw_region (mv 2 rfl (pu (v:= .int .i64 ((n:Nat):Int)) rfl (by kernel_rfl) (wl_cmp rfl rfl rfl true (cb_lt_t (a:=s+m) (b:=n) rfl rfl (by omega)) (by decide) (mv 3 rfl ?_))))
   obtain⟨p1,hp1,hc1,hv1⟩:=(hx).at (i:=s+m) (by omega)
   refine wl_idx rfl rfl rfl un_u64 sz_u64 (s+m) rfl (by omega) p1 hp1 (by decide) (wl_load rfl rfl (load_cell1 ag_u64 hc1) (by decide) (wl_cmp rfl rfl rfl true (cb_gt_t (a:=xs.getD (s+m) 0) (b:=0) rfl rfl (by omega)) (by decide) (pu (v:= .bool true) rfl (by kernel_rfl) (ne_ (cw_true rfl (sr (mv 1 rfl (ne_ (cw_ret (eo_thenR (eo_ret [.bool true] rfl ⟨rfl,trivial⟩ ?_)))))))))))
   exact⟨_,rfl,(show Value.bool true=_ by rw [decide_eq_true (goes_top hlen hle2 hs hwx hwe htop hpos)]),(Ext.refl w)⟩
  · 
   have hst:=goes_start hlen hle2 hs hwx hwe hbig (fun _=>by omega)
   refine cw_region (mv 2 rfl (pu (v:= .int .i64 ((n:Nat):Int)) rfl (by kernel_rfl) (wl_cmp rfl rfl rfl true (cb_lt_t (a:=s+m) (b:=n) rfl rfl (by omega)) (by decide) (mv 3 rfl ?_))))
   obtain⟨p2,hp2,hc2,hv2⟩:=(hx).at (i:=s+m) (by omega)
   refine wl_idx rfl rfl rfl un_u64 sz_u64 (s+m) rfl (by omega) p2 hp2 (by decide) (wl_load rfl rfl (load_cell1 ag_u64 hc2) (by decide) (wl_cmp rfl rfl rfl false (cb_gt_f (a:=xs.getD (s+m) 0) (b:=0) rfl rfl (by omega)) (by decide) (pu (v:= .bool false) rfl (by kernel_rfl) (ne_ (cw_false rfl (cw_skip (eo_then (cw_seq (sr (mv 1 rfl (pu (v:= .int .i64 ((m:Nat):Int)) rfl (by kernel_rfl) (wl_ar rfl rfl rfl (((m:Nat):Int)-1) (ar_i64s rfl (by omega) (by omega)) (by decide) (mv 1 rfl ?_)))))))))))))
   refine ne_ (cw_block ?_)
   refine cw_loop (T:=World×Nat×Int)
    (fun⟨wr,k,ii⟩=> [(0,.slice A n cap),(1,.slice D m cd),(2,.int .i64 ((s:Nat):Int)),(8,.int .i64 ii)])
    (fun⟨wr,k,ii⟩=>wr)
    (fun⟨wr,k,ii⟩=>(Ext w wr)∧(k≤m)∧(ii=(k:Int)-1)∧(nb 4294967296 (xs.drop (s+k))=nb 4294967296 (es.drop k))∧(Rd wr A n cap xs)∧(Rd wr D m cd es))
    (fun⟨wr,k,ii⟩=>k)
    (⟨w,m,_⟩:World×Nat×Int) ⟨(Ext.refl w),Nat.le_refl _,rfl,hst,hx,hy⟩ rfl ⟨rfl,rfl,rfl,rfl,trivial⟩ ?_
   rintro⟨wr,k,ii⟩ ⟨hw1,hk,hii,hv,rl0,rl1⟩
   refine cw_re [(0,.slice A n cap),(1,.slice D m cd),(2,.int .i64 ((s:Nat):Int)),(8,.int .i64 ii)] wr rfl ⟨rfl,rfl,rfl,rfl,trivial⟩ (cw_seq (cw_seq ?_))
   by_cases hkp:0<k
   · 
    obtain⟨j,rfl⟩:∃j,k=j+1:=⟨k-1,by omega⟩
    obtain rfl:ii=(j:Int):=by omega
    refine cw_region (mv 1 rfl (wl_cmp rfl rfl rfl true (cb_ge_t (a:=j) (b:=0) rfl rfl (by omega)) (by decide) (ne_ (cw_true rfl (cw_skip (eo_then (cw_seq (cw_block (cw_seq ?_)))))))))
    by_cases hne:xs.getD (s+j) 0≠es.getD j 0
    · 
     refine cw_keep [(0,.slice A n cap),(1,.slice D m cd),(2,.int .i64 ((s:Nat):Int)),(8,.int .i64 ((j:Nat):Int)),(27,.int .i64 ((j:Nat):Int)),(28,.bool true)] ⟨rfl,rfl,rfl,rfl,rfl,rfl,trivial⟩ ?_
     obtain⟨v3,hv,e4⟩:∃v,v=wr.drew∧Ext wr v:=⟨_,rfl,(Ext.refl _).drew⟩
     have hw2:=hw1.trans e4
     obtain⟨p5,hp5,hc5,hv5⟩:=((rl0.ext e4)).at (i:=s+j) (by omega)
     obtain⟨p6,hp6,hc6,hv6⟩:=((rl1.ext e4)).at (i:=j) (by omega)
     refine cw_det mix (w:=v3) [.slice A n cap,.int .i64 ((s:Nat):Int),.int .i64 ((j:Nat):Int),.int .i64 ((s+j:Nat):Int),.pointer (some p5),.int .u64 ((xs.getD (s+j) 0:Nat):Int),.slice D m cd,.int .i64 ((j:Nat):Int),.pointer (some p6),.int .u64 ((es.getD j 0:Nat):Int),.bool true] [v3] [] [[],[],[],[1,2],[0,3],[4],[],[],[6,7],[8],[5,9]] [[],[],[],[1,2],[0,1,2,3],[0,1,2,3,4],[],[],[6,7],[6,7,8],[0,1,2,3,4,5,6,7,8,9]] [(0,0),(1,0),(2,0),(3,0),(4,0),(5,0),(6,0),(7,0),(8,0),(9,0),(10,0)] rfl hv ?_ ?_
     · 
      refine dobs_val _ rfl rfl rfl rfl rfl (rd_move rfl) (dobs_val _ rfl rfl rfl rfl rfl (rd_move rfl) (dobs_val _ rfl rfl rfl rfl rfl (rd_move rfl) (dobs_val _ rfl rfl rfl rfl rfl (rd_ar rfl rfl ((s+j:Nat):Int) (ai_add (a:=s) (b:=j) rfl rfl (by omega))) (dobs_val _ rfl rfl rfl rfl rfl (rd_idx rfl rfl un_u64 sz_u64 (s+j) rfl (by omega) p5 hp5) (dobs_val _ rfl rfl rfl rfl rfl (rd_load rfl (load_cell1 ag_u64 hc5)) (dobs_val _ rfl rfl rfl rfl rfl (rd_move rfl) (dobs_val _ rfl rfl rfl rfl rfl (rd_move rfl) (dobs_val _ rfl rfl rfl rfl rfl (rd_idx rfl rfl un_u64 sz_u64 j rfl (by omega) p6 hp6) (dobs_val _ rfl rfl rfl rfl rfl (rd_load rfl (load_cell1 ag_u64 hc6)) (dobs_val _ rfl rfl rfl rfl rfl (rd_cmp rfl rfl true (cb_ne_t (a:=xs.getD (s+j) 0) (b:=es.getD j 0) rfl rfl (by omega))) ?_))))))))))
      exact dobs_nil
     clear hv
     refine eo_keep [(0,.slice A n cap),(1,.slice D m cd),(2,.int .i64 ((s:Nat):Int)),(8,.int .i64 ((j:Nat):Int)),(27,.int .i64 ((j:Nat):Int)),(28,.bool true),(31,.slice A n cap),(32,.int .i64 ((s:Nat):Int)),(33,.int .i64 ((j:Nat):Int)),(34,.int .i64 ((s+j:Nat):Int)),(35,.pointer (some p5)),(36,.int .u64 ((xs.getD (s+j) 0:Nat):Int)),(37,.slice D m cd),(38,.int .i64 ((j:Nat):Int)),(39,.pointer (some p6)),(40,.int .u64 ((es.getD j 0:Nat):Int)),(41,.bool true)] ⟨rfl,rfl,rfl,rfl,rfl,rfl,rfl,rfl,rfl,rfl,rfl,rfl,rfl,rfl,rfl,rfl,rfl,trivial⟩ (eo_then (cw_true rfl (cw_seq ?_)))
     by_cases hgt:xs.getD (s+j) 0>es.getD j 0
     · 
      refine cw_keep [(0,.slice A n cap),(1,.slice D m cd),(2,.int .i64 ((s:Nat):Int)),(8,.int .i64 ((j:Nat):Int)),(27,.int .i64 ((j:Nat):Int)),(28,.bool true),(31,.slice A n cap),(32,.int .i64 ((s:Nat):Int)),(33,.int .i64 ((j:Nat):Int)),(34,.int .i64 ((s+j:Nat):Int)),(35,.pointer (some p5)),(36,.int .u64 ((xs.getD (s+j) 0:Nat):Int)),(37,.slice D m cd),(38,.int .i64 ((j:Nat):Int)),(39,.pointer (some p6)),(40,.int .u64 ((es.getD j 0:Nat):Int)),(41,.bool true)] ⟨rfl,rfl,rfl,rfl,rfl,rfl,rfl,rfl,rfl,rfl,rfl,rfl,rfl,rfl,rfl,rfl,rfl,trivial⟩ ?_
      obtain⟨v7,hv,e8⟩:∃v,v=v3.drew∧Ext v3 v:=⟨_,rfl,(Ext.refl _).drew⟩
      have hw3:=hw2.trans e8
      refine cw_det mix (w:=v7) [.slice A n cap,.int .i64 ((s:Nat):Int),.int .i64 ((j:Nat):Int),.int .i64 ((s+j:Nat):Int),.pointer (some p5),.int .u64 ((xs.getD (s+j) 0:Nat):Int),.slice D m cd,.int .i64 ((j:Nat):Int),.pointer (some p6),.int .u64 ((es.getD j 0:Nat):Int),.bool true,.bool true] [v7] [] [[],[],[],[1,2],[0,3],[4],[],[],[6,7],[8],[5,9],[10]] [[],[],[],[1,2],[0,1,2,3],[0,1,2,3,4],[],[],[6,7],[6,7,8],[0,1,2,3,4,5,6,7,8,9],[0,1,2,3,4,5,6,7,8,9,10]] [(0,0),(1,0),(2,0),(3,0),(4,0),(5,0),(6,0),(7,0),(8,0),(9,0),(10,0),(11,0)] rfl hv ?_ ?_
      · 
       refine dobs_val _ rfl rfl rfl rfl rfl (rd_move rfl) (dobs_val _ rfl rfl rfl rfl rfl (rd_move rfl) (dobs_val _ rfl rfl rfl rfl rfl (rd_move rfl) (dobs_val _ rfl rfl rfl rfl rfl (rd_ar rfl rfl ((s+j:Nat):Int) (ai_add (a:=s) (b:=j) rfl rfl (by omega))) (dobs_val _ rfl rfl rfl rfl rfl (rd_idx rfl rfl un_u64 sz_u64 (s+j) rfl (by omega) p5 hp5) (dobs_val _ rfl rfl rfl rfl rfl (rd_load rfl (load_cell1 ag_u64 (e8.cell hc5))) (dobs_val _ rfl rfl rfl rfl rfl (rd_move rfl) (dobs_val _ rfl rfl rfl rfl rfl (rd_move rfl) (dobs_val _ rfl rfl rfl rfl rfl (rd_idx rfl rfl un_u64 sz_u64 j rfl (by omega) p6 hp6) (dobs_val _ rfl rfl rfl rfl rfl (rd_load rfl (load_cell1 ag_u64 (e8.cell hc6))) (dobs_val _ rfl rfl rfl rfl rfl (rd_cmp rfl rfl true (cb_gt_t (a:=xs.getD (s+j) 0) (b:=es.getD j 0) rfl rfl (by omega))) (dobs_val _ rfl rfl rfl rfl rfl (rd_assign rfl) ?_)))))))))))
       exact dobs_nil
      clear hv
      refine eo_keep [(0,.slice A n cap),(1,.slice D m cd),(2,.int .i64 ((s:Nat):Int)),(8,.int .i64 ((j:Nat):Int)),(27,.int .i64 ((j:Nat):Int)),(28,.bool true),(31,.slice A n cap),(32,.int .i64 ((s:Nat):Int)),(33,.int .i64 ((j:Nat):Int)),(34,.int .i64 ((s+j:Nat):Int)),(35,.pointer (some p5)),(36,.int .u64 ((xs.getD (s+j) 0:Nat):Int)),(37,.slice D m cd),(38,.int .i64 ((j:Nat):Int)),(39,.pointer (some p6)),(40,.int .u64 ((es.getD j 0:Nat):Int)),(41,.bool true),(42,.slice A n cap),(43,.int .i64 ((s:Nat):Int)),(44,.int .i64 ((j:Nat):Int)),(45,.int .i64 ((s+j:Nat):Int)),(46,.pointer (some p5)),(47,.int .u64 ((xs.getD (s+j) 0:Nat):Int)),(48,.slice D m cd),(49,.int .i64 ((j:Nat):Int)),(50,.pointer (some p6)),(51,.int .u64 ((es.getD j 0:Nat):Int)),(52,.bool true),(6,.bool true)] ⟨rfl,rfl,rfl,rfl,rfl,rfl,rfl,rfl,rfl,rfl,rfl,rfl,rfl,rfl,rfl,rfl,rfl,rfl,rfl,rfl,rfl,rfl,rfl,rfl,rfl,rfl,rfl,rfl,rfl,trivial⟩ (eo_then (cw_ret (eo_block_ret (eo_thenR (eo_loopR (eo_block_ret (eo_thenR (eo_ret [.bool true] rfl ⟨rfl,trivial⟩ ?_))))))))
      exact⟨_,rfl,(show Value.bool true=_ by rw [decide_eq_true (goes_gt hlen hle2 hs hwx hwe (by omega) hv hgt)]),hw3⟩
     · 
      refine cw_keep [(0,.slice A n cap),(1,.slice D m cd),(2,.int .i64 ((s:Nat):Int)),(8,.int .i64 ((j:Nat):Int)),(27,.int .i64 ((j:Nat):Int)),(28,.bool true),(31,.slice A n cap),(32,.int .i64 ((s:Nat):Int)),(33,.int .i64 ((j:Nat):Int)),(34,.int .i64 ((s+j:Nat):Int)),(35,.pointer (some p5)),(36,.int .u64 ((xs.getD (s+j) 0:Nat):Int)),(37,.slice D m cd),(38,.int .i64 ((j:Nat):Int)),(39,.pointer (some p6)),(40,.int .u64 ((es.getD j 0:Nat):Int)),(41,.bool true)] ⟨rfl,rfl,rfl,rfl,rfl,rfl,rfl,rfl,rfl,rfl,rfl,rfl,rfl,rfl,rfl,rfl,rfl,trivial⟩ ?_
      obtain⟨v9,hv,e10⟩:∃v,v=v3.drew∧Ext v3 v:=⟨_,rfl,(Ext.refl _).drew⟩
      have hw3:=hw2.trans e10
      refine cw_det mix (w:=v9) [.slice A n cap,.int .i64 ((s:Nat):Int),.int .i64 ((j:Nat):Int),.int .i64 ((s+j:Nat):Int),.pointer (some p5),.int .u64 ((xs.getD (s+j) 0:Nat):Int),.slice D m cd,.int .i64 ((j:Nat):Int),.pointer (some p6),.int .u64 ((es.getD j 0:Nat):Int),F0,F0] [v9] [] [[],[],[],[1,2],[0,3],[4],[],[],[6,7],[8],[5,9],[10]] [[],[],[],[1,2],[0,1,2,3],[0,1,2,3,4],[],[],[6,7],[6,7,8],[0,1,2,3,4,5,6,7,8,9],[0,1,2,3,4,5,6,7,8,9,10]] [(0,0),(1,0),(2,0),(3,0),(4,0),(5,0),(6,0),(7,0),(8,0),(9,0),(10,0),(11,0)] rfl hv ?_ ?_
      · 
       refine dobs_val _ rfl rfl rfl rfl rfl (rd_move rfl) (dobs_val _ rfl rfl rfl rfl rfl (rd_move rfl) (dobs_val _ rfl rfl rfl rfl rfl (rd_move rfl) (dobs_val _ rfl rfl rfl rfl rfl (rd_ar rfl rfl ((s+j:Nat):Int) (ai_add (a:=s) (b:=j) rfl rfl (by omega))) (dobs_val _ rfl rfl rfl rfl rfl (rd_idx rfl rfl un_u64 sz_u64 (s+j) rfl (by omega) p5 hp5) (dobs_val _ rfl rfl rfl rfl rfl (rd_load rfl (load_cell1 ag_u64 (e10.cell hc5))) (dobs_val _ rfl rfl rfl rfl rfl (rd_move rfl) (dobs_val _ rfl rfl rfl rfl rfl (rd_move rfl) (dobs_val _ rfl rfl rfl rfl rfl (rd_idx rfl rfl un_u64 sz_u64 j rfl (by omega) p6 hp6) (dobs_val _ rfl rfl rfl rfl rfl (rd_load rfl (load_cell1 ag_u64 (e10.cell hc6))) (dobs_val _ rfl rfl rfl rfl rfl (rd_cmp rfl rfl false (cb_gt_f (a:=xs.getD (s+j) 0) (b:=es.getD j 0) rfl rfl (by omega))) (dobs_val _ rfl rfl rfl rfl rfl (rd_assign rfl) ?_)))))))))))
       exact dobs_nil
      clear hv
      refine eo_keep [(0,.slice A n cap),(1,.slice D m cd),(2,.int .i64 ((s:Nat):Int)),(8,.int .i64 ((j:Nat):Int)),(27,.int .i64 ((j:Nat):Int)),(28,.bool true),(31,.slice A n cap),(32,.int .i64 ((s:Nat):Int)),(33,.int .i64 ((j:Nat):Int)),(34,.int .i64 ((s+j:Nat):Int)),(35,.pointer (some p5)),(36,.int .u64 ((xs.getD (s+j) 0:Nat):Int)),(37,.slice D m cd),(38,.int .i64 ((j:Nat):Int)),(39,.pointer (some p6)),(40,.int .u64 ((es.getD j 0:Nat):Int)),(41,.bool true),(42,.slice A n cap),(43,.int .i64 ((s:Nat):Int)),(44,.int .i64 ((j:Nat):Int)),(45,.int .i64 ((s+j:Nat):Int)),(46,.pointer (some p5)),(47,.int .u64 ((xs.getD (s+j) 0:Nat):Int)),(48,.slice D m cd),(49,.int .i64 ((j:Nat):Int)),(50,.pointer (some p6)),(51,.int .u64 ((es.getD j 0:Nat):Int)),(52,.bool false),(6,.bool false)] ⟨rfl,rfl,rfl,rfl,rfl,rfl,rfl,rfl,rfl,rfl,rfl,rfl,rfl,rfl,rfl,rfl,rfl,rfl,rfl,rfl,rfl,rfl,rfl,rfl,rfl,rfl,rfl,rfl,rfl,trivial⟩ (eo_then (cw_ret (eo_block_ret (eo_thenR (eo_loopR (eo_block_ret (eo_thenR (eo_ret [F0] rfl ⟨rfl,trivial⟩ ?_))))))))
      exact⟨_,rfl,(show Value.bool false=_ by rw [decide_eq_false (goes_lt hlen hle2 hs hwx hwe (by omega) hv (by omega))]),hw3⟩
    · 
     refine cw_keep [(0,.slice A n cap),(1,.slice D m cd),(2,.int .i64 ((s:Nat):Int)),(8,.int .i64 ((j:Nat):Int)),(27,.int .i64 ((j:Nat):Int)),(28,.bool true)] ⟨rfl,rfl,rfl,rfl,rfl,rfl,trivial⟩ ?_
     obtain⟨v11,hv,e12⟩:∃v,v=wr.drew∧Ext wr v:=⟨_,rfl,(Ext.refl _).drew⟩
     have hw2:=hw1.trans e12
     obtain⟨p13,hp13,hc13,hv13⟩:=((rl0.ext e12)).at (i:=s+j) (by omega)
     obtain⟨p14,hp14,hc14,hv14⟩:=((rl1.ext e12)).at (i:=j) (by omega)
     refine cw_det mix (w:=v11) [.slice A n cap,.int .i64 ((s:Nat):Int),.int .i64 ((j:Nat):Int),.int .i64 ((s+j:Nat):Int),.pointer (some p13),.int .u64 ((xs.getD (s+j) 0:Nat):Int),.slice D m cd,.int .i64 ((j:Nat):Int),.pointer (some p14),.int .u64 ((es.getD j 0:Nat):Int),F0] [v11] [] [[],[],[],[1,2],[0,3],[4],[],[],[6,7],[8],[5,9]] [[],[],[],[1,2],[0,1,2,3],[0,1,2,3,4],[],[],[6,7],[6,7,8],[0,1,2,3,4,5,6,7,8,9]] [(0,0),(1,0),(2,0),(3,0),(4,0),(5,0),(6,0),(7,0),(8,0),(9,0),(10,0)] rfl hv ?_ ?_
     · 
      refine dobs_val _ rfl rfl rfl rfl rfl (rd_move rfl) (dobs_val _ rfl rfl rfl rfl rfl (rd_move rfl) (dobs_val _ rfl rfl rfl rfl rfl (rd_move rfl) (dobs_val _ rfl rfl rfl rfl rfl (rd_ar rfl rfl ((s+j:Nat):Int) (ai_add (a:=s) (b:=j) rfl rfl (by omega))) (dobs_val _ rfl rfl rfl rfl rfl (rd_idx rfl rfl un_u64 sz_u64 (s+j) rfl (by omega) p13 hp13) (dobs_val _ rfl rfl rfl rfl rfl (rd_load rfl (load_cell1 ag_u64 hc13)) (dobs_val _ rfl rfl rfl rfl rfl (rd_move rfl) (dobs_val _ rfl rfl rfl rfl rfl (rd_move rfl) (dobs_val _ rfl rfl rfl rfl rfl (rd_idx rfl rfl un_u64 sz_u64 j rfl (by omega) p14 hp14) (dobs_val _ rfl rfl rfl rfl rfl (rd_load rfl (load_cell1 ag_u64 hc14)) (dobs_val _ rfl rfl rfl rfl rfl (rd_cmp rfl rfl false (cb_ne_f (a:=xs.getD (s+j) 0) (b:=es.getD j 0) rfl rfl (by omega))) ?_))))))))))
      exact dobs_nil
     clear hv
     refine eo_keep [(0,.slice A n cap),(1,.slice D m cd),(2,.int .i64 ((s:Nat):Int)),(8,.int .i64 ((j:Nat):Int)),(27,.int .i64 ((j:Nat):Int)),(28,.bool true),(31,.slice A n cap),(32,.int .i64 ((s:Nat):Int)),(33,.int .i64 ((j:Nat):Int)),(34,.int .i64 ((s+j:Nat):Int)),(35,.pointer (some p13)),(36,.int .u64 ((xs.getD (s+j) 0:Nat):Int)),(37,.slice D m cd),(38,.int .i64 ((j:Nat):Int)),(39,.pointer (some p14)),(40,.int .u64 ((es.getD j 0:Nat):Int)),(41,.bool false)] ⟨rfl,rfl,rfl,rfl,rfl,rfl,rfl,rfl,rfl,rfl,rfl,rfl,rfl,rfl,rfl,rfl,rfl,trivial⟩ (eo_then (cw_false rfl (cw_skip (eo_block_normal (eo_then (cw_region (mv 1 rfl (wl_ar rfl rfl rfl (((j:Nat):Int)-1) (ar_i64s rfl (by omega) (by omega)) (by decide) (mv 1 rfl (wl_nil (eo_round (⟨v11,j,_⟩:World×Nat×Int) ⟨hw2,(by omega),rfl,goes_step hlen hle2 hs hwx hwe (by omega) hv (by omega),(rl0.ext e12),(rl1.ext e12)⟩ (show j<j+1 by omega) rfl ⟨rfl,rfl,rfl,rfl,trivial⟩)))))))))))
   · 
    obtain rfl:k=0:=by omega
    refine cw_region (mv 1 rfl (wl_cmp rfl rfl rfl false (ge_f (by omega)) (by decide) (ne_ (cw_false rfl (cw_exit (eo_thenX (eo_loopX (eo_block_here (eo_then (sr (mv 1 rfl (ne_ (cw_ret ?_)))))))))))))
    refine eo_ret [.bool true] rfl ⟨rfl,trivial⟩ ?_
    exact⟨_,rfl,(show Value.bool true=_ by rw [decide_eq_true (goes_eq hlen hle2 hs hwx hwe hv)]),hw1⟩
 · 
  have hst:=goes_start hlen hle2 hs hwx hwe hbig (fun h=>absurd h htop)
  refine cw_region (mv 2 rfl (pu (v:= .int .i64 ((n:Nat):Int)) rfl (by kernel_rfl) (wl_cmp rfl rfl rfl false (cb_lt_f (a:=s+m) (b:=n) rfl rfl (by omega)) (by decide) (mv 6 rfl (pu (v:= .bool false) rfl (by kernel_rfl) (ne_ (cw_false rfl (cw_skip (eo_then (cw_seq (sr (mv 1 rfl (pu (v:= .int .i64 ((m:Nat):Int)) rfl (by kernel_rfl) ?_)))))))))))))
  refine wl_ar rfl rfl rfl (((m:Nat):Int)-1) (ar_i64s rfl (by omega) (by omega)) (by decide) (mv 1 rfl (ne_ (cw_block ?_)))
  refine cw_loop (T:=World×Nat×Int)
   (fun⟨wr,k,ii⟩=> [(0,.slice A n cap),(1,.slice D m cd),(2,.int .i64 ((s:Nat):Int)),(8,.int .i64 ii)])
   (fun⟨wr,k,ii⟩=>wr)
   (fun⟨wr,k,ii⟩=>(Ext w wr)∧(k≤m)∧(ii=(k:Int)-1)∧(nb 4294967296 (xs.drop (s+k))=nb 4294967296 (es.drop k))∧(Rd wr A n cap xs)∧(Rd wr D m cd es))
   (fun⟨wr,k,ii⟩=>k)
   (⟨w,m,_⟩:World×Nat×Int) ⟨(Ext.refl w),Nat.le_refl _,rfl,hst,hx,hy⟩ rfl ⟨rfl,rfl,rfl,rfl,trivial⟩ ?_
  rintro⟨wr,k,ii⟩ ⟨hw1,hk,hii,hv,rl0,rl1⟩
  refine cw_re [(0,.slice A n cap),(1,.slice D m cd),(2,.int .i64 ((s:Nat):Int)),(8,.int .i64 ii)] wr rfl ⟨rfl,rfl,rfl,rfl,trivial⟩ (cw_seq (cw_seq ?_))
  by_cases hkp:0<k
  · 
   obtain⟨j,rfl⟩:∃j,k=j+1:=⟨k-1,by omega⟩
   obtain rfl:ii=(j:Int):=by omega
   refine cw_region (mv 1 rfl (wl_cmp rfl rfl rfl true (cb_ge_t (a:=j) (b:=0) rfl rfl (by omega)) (by decide) (ne_ (cw_true rfl (cw_skip (eo_then (cw_seq (cw_block (cw_seq ?_)))))))))
   by_cases hne:xs.getD (s+j) 0≠es.getD j 0
   · 
    refine cw_keep [(0,.slice A n cap),(1,.slice D m cd),(2,.int .i64 ((s:Nat):Int)),(8,.int .i64 ((j:Nat):Int)),(27,.int .i64 ((j:Nat):Int)),(28,.bool true)] ⟨rfl,rfl,rfl,rfl,rfl,rfl,trivial⟩ ?_
    obtain⟨v15,hv,e16⟩:∃v,v=wr.drew∧Ext wr v:=⟨_,rfl,(Ext.refl _).drew⟩
    have hw2:=hw1.trans e16
    obtain⟨p17,hp17,hc17,hv17⟩:=((rl0.ext e16)).at (i:=s+j) (by omega)
    obtain⟨p18,hp18,hc18,hv18⟩:=((rl1.ext e16)).at (i:=j) (by omega)
    refine cw_det mix (w:=v15) [.slice A n cap,.int .i64 ((s:Nat):Int),.int .i64 ((j:Nat):Int),.int .i64 ((s+j:Nat):Int),.pointer (some p17),.int .u64 ((xs.getD (s+j) 0:Nat):Int),.slice D m cd,.int .i64 ((j:Nat):Int),.pointer (some p18),.int .u64 ((es.getD j 0:Nat):Int),.bool true] [v15] [] [[],[],[],[1,2],[0,3],[4],[],[],[6,7],[8],[5,9]] [[],[],[],[1,2],[0,1,2,3],[0,1,2,3,4],[],[],[6,7],[6,7,8],[0,1,2,3,4,5,6,7,8,9]] [(0,0),(1,0),(2,0),(3,0),(4,0),(5,0),(6,0),(7,0),(8,0),(9,0),(10,0)] rfl hv ?_ ?_
    · 
     refine dobs_val _ rfl rfl rfl rfl rfl (rd_move rfl) (dobs_val _ rfl rfl rfl rfl rfl (rd_move rfl) (dobs_val _ rfl rfl rfl rfl rfl (rd_move rfl) (dobs_val _ rfl rfl rfl rfl rfl (rd_ar rfl rfl ((s+j:Nat):Int) (ai_add (a:=s) (b:=j) rfl rfl (by omega))) (dobs_val _ rfl rfl rfl rfl rfl (rd_idx rfl rfl un_u64 sz_u64 (s+j) rfl (by omega) p17 hp17) (dobs_val _ rfl rfl rfl rfl rfl (rd_load rfl (load_cell1 ag_u64 hc17)) (dobs_val _ rfl rfl rfl rfl rfl (rd_move rfl) (dobs_val _ rfl rfl rfl rfl rfl (rd_move rfl) (dobs_val _ rfl rfl rfl rfl rfl (rd_idx rfl rfl un_u64 sz_u64 j rfl (by omega) p18 hp18) (dobs_val _ rfl rfl rfl rfl rfl (rd_load rfl (load_cell1 ag_u64 hc18)) (dobs_val _ rfl rfl rfl rfl rfl (rd_cmp rfl rfl true (cb_ne_t (a:=xs.getD (s+j) 0) (b:=es.getD j 0) rfl rfl (by omega))) ?_))))))))))
     exact dobs_nil
    clear hv
    refine eo_keep [(0,.slice A n cap),(1,.slice D m cd),(2,.int .i64 ((s:Nat):Int)),(8,.int .i64 ((j:Nat):Int)),(27,.int .i64 ((j:Nat):Int)),(28,.bool true),(31,.slice A n cap),(32,.int .i64 ((s:Nat):Int)),(33,.int .i64 ((j:Nat):Int)),(34,.int .i64 ((s+j:Nat):Int)),(35,.pointer (some p17)),(36,.int .u64 ((xs.getD (s+j) 0:Nat):Int)),(37,.slice D m cd),(38,.int .i64 ((j:Nat):Int)),(39,.pointer (some p18)),(40,.int .u64 ((es.getD j 0:Nat):Int)),(41,.bool true)] ⟨rfl,rfl,rfl,rfl,rfl,rfl,rfl,rfl,rfl,rfl,rfl,rfl,rfl,rfl,rfl,rfl,rfl,trivial⟩ (eo_then (cw_true rfl (cw_seq ?_)))
    by_cases hgt:xs.getD (s+j) 0>es.getD j 0
    · 
     refine cw_keep [(0,.slice A n cap),(1,.slice D m cd),(2,.int .i64 ((s:Nat):Int)),(8,.int .i64 ((j:Nat):Int)),(27,.int .i64 ((j:Nat):Int)),(28,.bool true),(31,.slice A n cap),(32,.int .i64 ((s:Nat):Int)),(33,.int .i64 ((j:Nat):Int)),(34,.int .i64 ((s+j:Nat):Int)),(35,.pointer (some p17)),(36,.int .u64 ((xs.getD (s+j) 0:Nat):Int)),(37,.slice D m cd),(38,.int .i64 ((j:Nat):Int)),(39,.pointer (some p18)),(40,.int .u64 ((es.getD j 0:Nat):Int)),(41,.bool true)] ⟨rfl,rfl,rfl,rfl,rfl,rfl,rfl,rfl,rfl,rfl,rfl,rfl,rfl,rfl,rfl,rfl,rfl,trivial⟩ ?_
     obtain⟨v19,hv,e20⟩:∃v,v=v15.drew∧Ext v15 v:=⟨_,rfl,(Ext.refl _).drew⟩
     have hw3:=hw2.trans e20
     refine cw_det mix (w:=v19) [.slice A n cap,.int .i64 ((s:Nat):Int),.int .i64 ((j:Nat):Int),.int .i64 ((s+j:Nat):Int),.pointer (some p17),.int .u64 ((xs.getD (s+j) 0:Nat):Int),.slice D m cd,.int .i64 ((j:Nat):Int),.pointer (some p18),.int .u64 ((es.getD j 0:Nat):Int),.bool true,.bool true] [v19] [] [[],[],[],[1,2],[0,3],[4],[],[],[6,7],[8],[5,9],[10]] [[],[],[],[1,2],[0,1,2,3],[0,1,2,3,4],[],[],[6,7],[6,7,8],[0,1,2,3,4,5,6,7,8,9],[0,1,2,3,4,5,6,7,8,9,10]] [(0,0),(1,0),(2,0),(3,0),(4,0),(5,0),(6,0),(7,0),(8,0),(9,0),(10,0),(11,0)] rfl hv ?_ ?_
     · 
      refine dobs_val _ rfl rfl rfl rfl rfl (rd_move rfl) (dobs_val _ rfl rfl rfl rfl rfl (rd_move rfl) (dobs_val _ rfl rfl rfl rfl rfl (rd_move rfl) (dobs_val _ rfl rfl rfl rfl rfl (rd_ar rfl rfl ((s+j:Nat):Int) (ai_add (a:=s) (b:=j) rfl rfl (by omega))) (dobs_val _ rfl rfl rfl rfl rfl (rd_idx rfl rfl un_u64 sz_u64 (s+j) rfl (by omega) p17 hp17) (dobs_val _ rfl rfl rfl rfl rfl (rd_load rfl (load_cell1 ag_u64 (e20.cell hc17))) (dobs_val _ rfl rfl rfl rfl rfl (rd_move rfl) (dobs_val _ rfl rfl rfl rfl rfl (rd_move rfl) (dobs_val _ rfl rfl rfl rfl rfl (rd_idx rfl rfl un_u64 sz_u64 j rfl (by omega) p18 hp18) (dobs_val _ rfl rfl rfl rfl rfl (rd_load rfl (load_cell1 ag_u64 (e20.cell hc18))) (dobs_val _ rfl rfl rfl rfl rfl (rd_cmp rfl rfl true (cb_gt_t (a:=xs.getD (s+j) 0) (b:=es.getD j 0) rfl rfl (by omega))) (dobs_val _ rfl rfl rfl rfl rfl (rd_assign rfl) ?_)))))))))))
      exact dobs_nil
     clear hv
     refine eo_keep [(0,.slice A n cap),(1,.slice D m cd),(2,.int .i64 ((s:Nat):Int)),(8,.int .i64 ((j:Nat):Int)),(27,.int .i64 ((j:Nat):Int)),(28,.bool true),(31,.slice A n cap),(32,.int .i64 ((s:Nat):Int)),(33,.int .i64 ((j:Nat):Int)),(34,.int .i64 ((s+j:Nat):Int)),(35,.pointer (some p17)),(36,.int .u64 ((xs.getD (s+j) 0:Nat):Int)),(37,.slice D m cd),(38,.int .i64 ((j:Nat):Int)),(39,.pointer (some p18)),(40,.int .u64 ((es.getD j 0:Nat):Int)),(41,.bool true),(42,.slice A n cap),(43,.int .i64 ((s:Nat):Int)),(44,.int .i64 ((j:Nat):Int)),(45,.int .i64 ((s+j:Nat):Int)),(46,.pointer (some p17)),(47,.int .u64 ((xs.getD (s+j) 0:Nat):Int)),(48,.slice D m cd),(49,.int .i64 ((j:Nat):Int)),(50,.pointer (some p18)),(51,.int .u64 ((es.getD j 0:Nat):Int)),(52,.bool true),(6,.bool true)] ⟨rfl,rfl,rfl,rfl,rfl,rfl,rfl,rfl,rfl,rfl,rfl,rfl,rfl,rfl,rfl,rfl,rfl,rfl,rfl,rfl,rfl,rfl,rfl,rfl,rfl,rfl,rfl,rfl,rfl,trivial⟩ (eo_then (cw_ret (eo_block_ret (eo_thenR (eo_loopR (eo_block_ret (eo_thenR (eo_ret [.bool true] rfl ⟨rfl,trivial⟩ ?_))))))))
     exact⟨_,rfl,(show Value.bool true=_ by rw [decide_eq_true (goes_gt hlen hle2 hs hwx hwe (by omega) hv hgt)]),hw3⟩
    · 
     refine cw_keep [(0,.slice A n cap),(1,.slice D m cd),(2,.int .i64 ((s:Nat):Int)),(8,.int .i64 ((j:Nat):Int)),(27,.int .i64 ((j:Nat):Int)),(28,.bool true),(31,.slice A n cap),(32,.int .i64 ((s:Nat):Int)),(33,.int .i64 ((j:Nat):Int)),(34,.int .i64 ((s+j:Nat):Int)),(35,.pointer (some p17)),(36,.int .u64 ((xs.getD (s+j) 0:Nat):Int)),(37,.slice D m cd),(38,.int .i64 ((j:Nat):Int)),(39,.pointer (some p18)),(40,.int .u64 ((es.getD j 0:Nat):Int)),(41,.bool true)] ⟨rfl,rfl,rfl,rfl,rfl,rfl,rfl,rfl,rfl,rfl,rfl,rfl,rfl,rfl,rfl,rfl,rfl,trivial⟩ ?_
     obtain⟨v21,hv,e22⟩:∃v,v=v15.drew∧Ext v15 v:=⟨_,rfl,(Ext.refl _).drew⟩
     have hw3:=hw2.trans e22
     refine cw_det mix (w:=v21) [.slice A n cap,.int .i64 ((s:Nat):Int),.int .i64 ((j:Nat):Int),.int .i64 ((s+j:Nat):Int),.pointer (some p17),.int .u64 ((xs.getD (s+j) 0:Nat):Int),.slice D m cd,.int .i64 ((j:Nat):Int),.pointer (some p18),.int .u64 ((es.getD j 0:Nat):Int),F0,F0] [v21] [] [[],[],[],[1,2],[0,3],[4],[],[],[6,7],[8],[5,9],[10]] [[],[],[],[1,2],[0,1,2,3],[0,1,2,3,4],[],[],[6,7],[6,7,8],[0,1,2,3,4,5,6,7,8,9],[0,1,2,3,4,5,6,7,8,9,10]] [(0,0),(1,0),(2,0),(3,0),(4,0),(5,0),(6,0),(7,0),(8,0),(9,0),(10,0),(11,0)] rfl hv ?_ ?_
     · 
      refine dobs_val _ rfl rfl rfl rfl rfl (rd_move rfl) (dobs_val _ rfl rfl rfl rfl rfl (rd_move rfl) (dobs_val _ rfl rfl rfl rfl rfl (rd_move rfl) (dobs_val _ rfl rfl rfl rfl rfl (rd_ar rfl rfl ((s+j:Nat):Int) (ai_add (a:=s) (b:=j) rfl rfl (by omega))) (dobs_val _ rfl rfl rfl rfl rfl (rd_idx rfl rfl un_u64 sz_u64 (s+j) rfl (by omega) p17 hp17) (dobs_val _ rfl rfl rfl rfl rfl (rd_load rfl (load_cell1 ag_u64 (e22.cell hc17))) (dobs_val _ rfl rfl rfl rfl rfl (rd_move rfl) (dobs_val _ rfl rfl rfl rfl rfl (rd_move rfl) (dobs_val _ rfl rfl rfl rfl rfl (rd_idx rfl rfl un_u64 sz_u64 j rfl (by omega) p18 hp18) (dobs_val _ rfl rfl rfl rfl rfl (rd_load rfl (load_cell1 ag_u64 (e22.cell hc18))) (dobs_val _ rfl rfl rfl rfl rfl (rd_cmp rfl rfl false (cb_gt_f (a:=xs.getD (s+j) 0) (b:=es.getD j 0) rfl rfl (by omega))) (dobs_val _ rfl rfl rfl rfl rfl (rd_assign rfl) ?_)))))))))))
      exact dobs_nil
     clear hv
     refine eo_keep [(0,.slice A n cap),(1,.slice D m cd),(2,.int .i64 ((s:Nat):Int)),(8,.int .i64 ((j:Nat):Int)),(27,.int .i64 ((j:Nat):Int)),(28,.bool true),(31,.slice A n cap),(32,.int .i64 ((s:Nat):Int)),(33,.int .i64 ((j:Nat):Int)),(34,.int .i64 ((s+j:Nat):Int)),(35,.pointer (some p17)),(36,.int .u64 ((xs.getD (s+j) 0:Nat):Int)),(37,.slice D m cd),(38,.int .i64 ((j:Nat):Int)),(39,.pointer (some p18)),(40,.int .u64 ((es.getD j 0:Nat):Int)),(41,.bool true),(42,.slice A n cap),(43,.int .i64 ((s:Nat):Int)),(44,.int .i64 ((j:Nat):Int)),(45,.int .i64 ((s+j:Nat):Int)),(46,.pointer (some p17)),(47,.int .u64 ((xs.getD (s+j) 0:Nat):Int)),(48,.slice D m cd),(49,.int .i64 ((j:Nat):Int)),(50,.pointer (some p18)),(51,.int .u64 ((es.getD j 0:Nat):Int)),(52,.bool false),(6,.bool false)] ⟨rfl,rfl,rfl,rfl,rfl,rfl,rfl,rfl,rfl,rfl,rfl,rfl,rfl,rfl,rfl,rfl,rfl,rfl,rfl,rfl,rfl,rfl,rfl,rfl,rfl,rfl,rfl,rfl,rfl,trivial⟩ (eo_then (cw_ret (eo_block_ret (eo_thenR (eo_loopR (eo_block_ret (eo_thenR (eo_ret [F0] rfl ⟨rfl,trivial⟩ ?_))))))))
     exact⟨_,rfl,(show Value.bool false=_ by rw [decide_eq_false (goes_lt hlen hle2 hs hwx hwe (by omega) hv (by omega))]),hw3⟩
   · 
    refine cw_keep [(0,.slice A n cap),(1,.slice D m cd),(2,.int .i64 ((s:Nat):Int)),(8,.int .i64 ((j:Nat):Int)),(27,.int .i64 ((j:Nat):Int)),(28,.bool true)] ⟨rfl,rfl,rfl,rfl,rfl,rfl,trivial⟩ ?_
    obtain⟨v23,hv,e24⟩:∃v,v=wr.drew∧Ext wr v:=⟨_,rfl,(Ext.refl _).drew⟩
    have hw2:=hw1.trans e24
    obtain⟨p25,hp25,hc25,hv25⟩:=((rl0.ext e24)).at (i:=s+j) (by omega)
    obtain⟨p26,hp26,hc26,hv26⟩:=((rl1.ext e24)).at (i:=j) (by omega)
    refine cw_det mix (w:=v23) [.slice A n cap,.int .i64 ((s:Nat):Int),.int .i64 ((j:Nat):Int),.int .i64 ((s+j:Nat):Int),.pointer (some p25),.int .u64 ((xs.getD (s+j) 0:Nat):Int),.slice D m cd,.int .i64 ((j:Nat):Int),.pointer (some p26),.int .u64 ((es.getD j 0:Nat):Int),F0] [v23] [] [[],[],[],[1,2],[0,3],[4],[],[],[6,7],[8],[5,9]] [[],[],[],[1,2],[0,1,2,3],[0,1,2,3,4],[],[],[6,7],[6,7,8],[0,1,2,3,4,5,6,7,8,9]] [(0,0),(1,0),(2,0),(3,0),(4,0),(5,0),(6,0),(7,0),(8,0),(9,0),(10,0)] rfl hv ?_ ?_
    · 
     refine dobs_val _ rfl rfl rfl rfl rfl (rd_move rfl) (dobs_val _ rfl rfl rfl rfl rfl (rd_move rfl) (dobs_val _ rfl rfl rfl rfl rfl (rd_move rfl) (dobs_val _ rfl rfl rfl rfl rfl (rd_ar rfl rfl ((s+j:Nat):Int) (ai_add (a:=s) (b:=j) rfl rfl (by omega))) (dobs_val _ rfl rfl rfl rfl rfl (rd_idx rfl rfl un_u64 sz_u64 (s+j) rfl (by omega) p25 hp25) (dobs_val _ rfl rfl rfl rfl rfl (rd_load rfl (load_cell1 ag_u64 hc25)) (dobs_val _ rfl rfl rfl rfl rfl (rd_move rfl) (dobs_val _ rfl rfl rfl rfl rfl (rd_move rfl) (dobs_val _ rfl rfl rfl rfl rfl (rd_idx rfl rfl un_u64 sz_u64 j rfl (by omega) p26 hp26) (dobs_val _ rfl rfl rfl rfl rfl (rd_load rfl (load_cell1 ag_u64 hc26)) (dobs_val _ rfl rfl rfl rfl rfl (rd_cmp rfl rfl false (cb_ne_f (a:=xs.getD (s+j) 0) (b:=es.getD j 0) rfl rfl (by omega))) ?_))))))))))
     exact dobs_nil
    clear hv
    refine eo_keep [(0,.slice A n cap),(1,.slice D m cd),(2,.int .i64 ((s:Nat):Int)),(8,.int .i64 ((j:Nat):Int)),(27,.int .i64 ((j:Nat):Int)),(28,.bool true),(31,.slice A n cap),(32,.int .i64 ((s:Nat):Int)),(33,.int .i64 ((j:Nat):Int)),(34,.int .i64 ((s+j:Nat):Int)),(35,.pointer (some p25)),(36,.int .u64 ((xs.getD (s+j) 0:Nat):Int)),(37,.slice D m cd),(38,.int .i64 ((j:Nat):Int)),(39,.pointer (some p26)),(40,.int .u64 ((es.getD j 0:Nat):Int)),(41,.bool false)] ⟨rfl,rfl,rfl,rfl,rfl,rfl,rfl,rfl,rfl,rfl,rfl,rfl,rfl,rfl,rfl,rfl,rfl,trivial⟩ (eo_then (cw_false rfl (cw_skip (eo_block_normal (eo_then (cw_region (mv 1 rfl (wl_ar rfl rfl rfl (((j:Nat):Int)-1) (ar_i64s rfl (by omega) (by omega)) (by decide) (mv 1 rfl (wl_nil (eo_round (⟨v23,j,_⟩:World×Nat×Int) ⟨hw2,(by omega),rfl,goes_step hlen hle2 hs hwx hwe (by omega) hv (by omega),(rl0.ext e24),(rl1.ext e24)⟩ (show j<j+1 by omega) rfl ⟨rfl,rfl,rfl,rfl,trivial⟩)))))))))))
  · 
   obtain rfl:k=0:=by omega
   refine cw_region (mv 1 rfl (wl_cmp rfl rfl rfl false (ge_f (by omega)) (by decide) (ne_ (cw_false rfl (cw_exit (eo_thenX (eo_loopX (eo_block_here (eo_then (sr (mv 1 rfl (ne_ (cw_ret ?_)))))))))))))
   refine eo_ret [.bool true] rfl ⟨rfl,trivial⟩ ?_
   exact⟨_,rfl,(show Value.bool true=_ by rw [decide_eq_true (goes_eq hlen hle2 hs hwx hwe hv)]),hw1⟩
theorem nb_digit_le {b:Nat}{l:List Nat}{i:Nat}(hi:i<l.length):l.getD i 0*b^i≤nb b l:=by
 rw [nb_split b l i (by omega),drop_getD3 hi,Nat.mul_add,Nat.mul_comm (l.getD i 0)]
 omega
theorem divmod_of3 {x y q r:Nat}(h:q*y+r=x) (hr:r<y):q=x/y∧r=x%y:=by
 subst h
 rw [Nat.mul_comm]
 constructor
 ·rw [Nat.mul_add_div (by omega),Nat.div_eq_of_lt hr];rfl
 ·rw [Nat.mul_add_mod,Nat.mod_eq_of_lt hr]
theorem nb_ge_of_top {b m:Nat}{es:List Nat}(hb:0<b) (hm:0<m) (hl:es.length=m) (ht:es.getD (m-1) 0≠0):b^(m-1)≤nb b es:=by
 refine Nat.le_trans ?_ (nb_digit_le (b:=b) (l:=es) (i:=m-1) (by omega))
 exact Nat.le_mul_of_pos_left _ (by omega)
theorem nb_pos_of_top {b m:Nat}{es:List Nat}(hb:0<b) (hm:0<m) (hl:es.length=m) (ht:es.getD (m-1) 0≠0):0<nb b es:=Nat.lt_of_lt_of_le (Nat.pow_pos hb) (nb_ge_of_top hb hm hl ht)
theorem small_of_top {n m:Nat}{xs es:List Nat}(hw:Wfb 4294967296 xs) (hn:xs.length=n) (hl:es.length=m) (h:n<m) (ht:es.getD (m-1) 0≠0):nb 4294967296 xs<nb 4294967296 es:=by
 have h1:=nb_lt hw
 rw [hn] at h1
 have h2:=nb_ge_of_top (b:=4294967296) (by decide) (by omega) hl ht
 have h3:4294967296^n≤4294967296^(m-1):=Nat.pow_le_pow_right (by decide) (by omega)
 omega
theorem ref3_goes' {w:World}{A D:Option Addr}{n cap m cd s:Nat}{xs es:List Nat}{b:Bool}(hx:Rd w A n cap xs) (hln:n≤1099511627776) (hy:Rd w D m cd es) (hwx:Wfb 4294967296 xs) (hwe:Wfb 4294967296 es) (hs:s+m≤n) (hbig:nb 4294967296 xs<4294967296^(s+m+1)) (hb:decide (nb 4294967296 es*4294967296^s≤nb 4294967296 xs)=b):
  Calls Tryz.prog 198 #[.slice A n cap,.slice D m cd,.int .i64 (s:Int)] w (Gv w (Is (.bool b))):=hb▸ref3_goes hx hln hy hwx hwe hs hbig
theorem nb_digit2_le {b:Nat}{l:List Nat}{i i':Nat}(h:i+1=i') (hi:i'<l.length):(l.getD i 0+l.getD i' 0*b)*b^i≤nb b l:=by
 subst h
 rw [nb_split b l i (by omega),drop_getD3 (k:=i) (by omega),drop_getD3 (k:=i+1) hi,Nat.mul_comm,Nat.mul_comm (l.getD (i+1) 0)]
 refine Nat.le_trans (Nat.mul_le_mul_left _ ?_) (Nat.le_add_left _ _)
 rw [Nat.mul_add]
 omega
theorem dv_head {l:List Nat}{k:Nat}(hw:Wfb 4294967296 l) (hk:k≤l.length) (h0:0<k) (hv:nb 4294967296 (l.take k)=nb 4294967296 l):nb 4294967296 l<(l.getD (k-1) 0+1)*4294967296^(k-1):=by
 obtain⟨j,rfl⟩:∃j,k=j+1:=⟨k-1,by omega⟩
 rw [←hv,nb_take_snoc 4294967296 l j (by omega),Nat.add_sub_cancel,Nat.add_mul,Nat.one_mul,Nat.mul_comm (l.getD j 0)]
 have:=nb_take_lt (by decide) hw j
 omega
theorem dv_fit {D hd k t j R:Nat}(hD:D<hd*4294967296^(k-1)) (hk:0<k) (ht:t*4294967296^(j+k-1)≤R):t/hd*D*4294967296^j≤R:=by
 have h1:t/hd*D≤t/hd*(hd*4294967296^(k-1)):=Nat.mul_le_mul_left _ (Nat.le_of_lt hD)
 have h2:t/hd*(hd*4294967296^(k-1))≤t*4294967296^(k-1):=by
  rw [←Nat.mul_assoc]
  exact Nat.mul_le_mul_right _ (Nat.div_mul_le_self t hd)
 have h3:=Nat.mul_le_mul_right (4294967296^j) (Nat.le_trans h1 h2)
 rw [Nat.mul_assoc t,←Nat.pow_add,show k-1+j=j+k-1 by omega] at h3
 exact Nat.le_trans h3 ht
theorem dv_lt {n D j R:Nat}(h:n*D*4294967296^j≤R) (hR:R<D*4294967296^(j+1)):n<4294967296:=by
 refine Nat.lt_of_not_le fun hn=>?_
 have h1:4294967296*D*4294967296^j≤n*D*4294967296^j:=Nat.mul_le_mul_right _ (Nat.mul_le_mul_right _ hn)
 have h2:4294967296*D*4294967296^j=D*4294967296^(j+1):=by rw [Nat.pow_succ];grind
 omega
structure DO (Z D k:Nat) (lq lr:List Nat):Prop where
 wq:Wfb 4294967296 lq
 wr:Wfb 4294967296 lr
 v:nb 4294967296 lq*D+nb 4294967296 lr=Z
 lt:nb 4294967296 lr<D*4294967296^k
 z:∀i,i<k→lq.getD i 0=0
structure DI (Z D j:Nat) (lq lr:List Nat):Prop where
 wq:Wfb 4294967296 lq
 wr:Wfb 4294967296 lr
 v:nb 4294967296 lq*D+nb 4294967296 lr=Z
 lt:lq.getD j 0*(D*4294967296^j)+nb 4294967296 lr<D*4294967296^(j+1)
 z:∀i,i<j→lq.getD i 0=0
theorem getD_zeros (k i:Nat):(List.replicate k 0).getD i 0=0:=by
 rw [List.getD_eq_getElem?_getD]
 by_cases h:i<k
 ·rw [List.getElem?_replicate_of_lt h];rfl
 ·rw [List.getElem?_eq_none (by rw [List.length_replicate];omega)];rfl
theorem DO.start {X Y f n m:Nat}{lr ld:List Nat}(hw:Wfb 4294967296 lr) (hr:nb 4294967296 lr=X*f) (hd:nb 4294967296 ld=Y*f) (hf:1≤f) (hX:X<4294967296^n) (hY:4294967296^(m-1)≤Y) (hm:0<m) (hmn:m≤n):
  DO (X*f) (nb 4294967296 ld) (n-m+1) (List.replicate (n-m+1) 0) lr:=by
 refine⟨Wfb_zeros (by decide) _,hw,by rw [nb_zeros,hr];omega,?_,fun i _=>getD_zeros _ i⟩
 rw [hr,hd]
 have h1:4294967296^n=4294967296^(m-1)*4294967296^(n-m+1):=by rw [←Nat.pow_add];congr 1;omega
 have h2:4294967296^(m-1)*4294967296^(n-m+1)≤Y*4294967296^(n-m+1):=Nat.mul_le_mul_right _ hY
 rw [Nat.mul_right_comm]
 exact Nat.mul_lt_mul_of_pos_right (by omega) hf
theorem DO.enter {Z D j:Nat}{lq lr:List Nat}(h:DO Z D (j+1) lq lr):DI Z D j lq lr:=⟨h.wq,h.wr,h.v,by rw [h.z j (by omega),Nat.zero_mul,Nat.zero_add];exact h.lt,fun i hi=>h.z i (by omega)⟩
theorem DI.leave {Z D j:Nat}{lq lr:List Nat}(h:DI Z D j lq lr) (hn:¬D*4294967296^j≤nb 4294967296 lr):DO Z D j lq lr:=⟨h.wq,h.wr,h.v,by omega,h.z⟩
theorem DI.sum {Z D j n:Nat}{lq lr l':List Nat}(h:DI Z D j lq lr) (hv:nb 4294967296 l'+n*D*4294967296^j=nb 4294967296 lr):(lq.getD j 0+n)*(D*4294967296^j)+nb 4294967296 l'<D*4294967296^(j+1):=by
 have h1:=h.lt
 rw [Nat.add_mul,←Nat.mul_assoc n]
 omega
theorem DI.digit {Z D j n:Nat}{lq lr l':List Nat}(h:DI Z D j lq lr) (hv:nb 4294967296 l'+n*D*4294967296^j=nb 4294967296 lr):lq.getD j 0+n<4294967296:=by
 have h1:=h.sum hv
 refine dv_lt (R:=(lq.getD j 0+n)*D*4294967296^j) (Nat.le_refl _) ?_
 rw [Nat.mul_assoc];omega
theorem DI.step {Z D j n:Nat}{lq lr l':List Nat}(h:DI Z D j lq lr) (hj:j<lq.length) (hw:Wfb 4294967296 l') (hv:nb 4294967296 l'+n*D*4294967296^j=nb 4294967296 lr):DI Z D j (lq.set j (lq.getD j 0+n)) l':=by
 refine⟨Wfb_set h.wq _ (h.digit hv),hw,?_,?_,fun i hi=>by rw [getD_set_ne (by omega),h.z i hi]⟩
 ·have h1:=nb_set 4294967296 hj (lq.getD j 0+n)
  rw [Nat.mul_add] at h1
  have h2:nb 4294967296 (lq.set j (lq.getD j 0+n))=nb 4294967296 lq+4294967296^j*n:=by omega
  have h3:=h.v
  have h4:4294967296^j*n*D=n*D*4294967296^j:=by grind
  rw [h2,Nat.add_mul,h4]
  omega
 ·rw [getD_set_eq hj];exact h.sum hv
theorem dv_less {D j n:Nat}{lr l':List Nat}(hn:1≤n) (hD:0<D) (hv:nb 4294967296 l'+n*D*4294967296^j=nb 4294967296 lr):nb 4294967296 l'<nb 4294967296 lr:=by
 have:0<n*D*4294967296^j:=Nat.mul_pos (Nat.mul_pos hn hD) (Nat.pow_pos (by decide))
 omega
theorem dv_big {Z D j k:Nat}{lq lr ld:List Nat}(h:DI Z D j lq lr) (hd:nb 4294967296 ld=D) (hw:Wfb 4294967296 ld) (hv:nb 4294967296 (ld.take k)=nb 4294967296 ld):nb 4294967296 lr<4294967296^(j+k+1):=by
 have h1:=nb_take_lt (by decide) hw k
 rw [hv,hd] at h1
 have h2:=h.lt
 have h3:D*4294967296^(j+1)≤4294967296^k*4294967296^(j+1):=Nat.mul_le_mul_right _ (Nat.le_of_lt h1)
 rw [←Nat.pow_add,show k+(j+1)=j+k+1 by omega] at h3
 omega
structure DF (f:Nat) (l0:List Nat) (k rest:Nat) (l:List Nat):Prop where
 len:l.length=l0.length
 wf:Wfb 4294967296 l
 rf:rest<f
 v:nb 4294967296 (l0.drop k)=nb 4294967296 (l.drop k)*f+rest
 same:∀i,i<k→l.getD i 0=l0.getD i 0
theorem DF.start {f n:Nat}{l0:List Nat}(hw:Wfb 4294967296 l0) (hf:1≤f) (hl:l0.length=n):DF f l0 n 0 l0:=⟨rfl,hw,hf,by rw [List.drop_of_length_le (by omega),nb_nil,Nat.zero_mul],fun _ _=>rfl⟩
theorem DF.step {f j rest:Nat}{l0 l:List Nat}(h:DF f l0 (j+1) rest l) (hj:j<l0.length) (hd:(rest*4294967296+l.getD j 0)/f<4294967296) (hf:1≤f):DF f l0 j ((rest*4294967296+l.getD j 0)%f) (l.set j ((rest*4294967296+l.getD j 0)/f)):=by
 refine⟨by rw [List.length_set,h.len],Wfb_set h.wf _ hd,Nat.mod_lt _ hf,?_,fun i hi=>by rw [getD_set_ne (by omega),h.same i (by omega)]⟩
 rw [drop_getD3 hj,drop_getD3 (xs:=l.set j _) (k:=j) (by rw [List.length_set,h.len];exact hj),getD_set_eq (by rw [h.len];exact hj),h.v,←h.same j (by omega),List.drop_set_of_lt (by omega)]
 have e:=Nat.div_add_mod (rest*4294967296+l.getD j 0) f
 generalize (rest*4294967296+l.getD j 0)/f=Q at*
 generalize (rest*4294967296+l.getD j 0)%f=R at*
 have e2:(Q+4294967296*nb 4294967296 (List.drop (j+1) l))*f=f*Q+4294967296*(nb 4294967296 (List.drop (j+1) l)*f):=by grind
 rw [e2]
 omega
theorem DF.digit {f j rest:Nat}{l0 l:List Nat}(h:DF f l0 (j+1) rest l):(rest*4294967296+l.getD j 0)/f<4294967296:=by
 have h1:=Wfb_getD (b:=4294967296) (by decide) h.wf j
 have h2:=h.rf
 rw [Nat.div_lt_iff_lt_mul (by omega)]
 have h3:(rest+1)*4294967296≤f*4294967296:=Nat.mul_le_mul_right _ h2
 rw [Nat.mul_comm 4294967296 f]
 omega
theorem dv_done {X Y f rest:Nat}{lq lr ld l:List Nat}(h:DO (X*f) (nb 4294967296 ld) 0 lq lr) (hd:nb 4294967296 ld=Y*f) (hF:DF f lr 0 rest l):nb 4294967296 lq=X/Y∧nb 4294967296 l=X%Y:=by
 have h1:=h.v
 have h2:=h.lt
 have h3:=hF.v
 have h4:=hF.rf
 rw [List.drop_zero,List.drop_zero] at h3
 rw [hd,Nat.pow_zero,Nat.mul_one] at h2
 rw [hd] at h1
 have e:(nb 4294967296 lq*Y+nb 4294967296 l)*f+rest=X*f:=by rw [Nat.add_mul,Nat.mul_assoc];omega
 have h0:rest=0:=by
  have:=congrArg (· %f) e
  simp only [Nat.mul_mod_left,Nat.add_comm _ rest,Nat.add_mul_mod_self_right] at this
  rwa [Nat.mod_eq_of_lt h4] at this
 rw [h0,Nat.add_zero] at e h3
 have e2:=Nat.eq_of_mul_eq_mul_right (by omega:0<f) e
 have h5:nb 4294967296 l<Y:=by
  rw [h3] at h2
  exact Nat.lt_of_mul_lt_mul_right h2
 have:=divmod_of3 (x:=X) (y:=Y) e2 h5
 exact this
set_option maxHeartbeats 4000000 in
theorem ref3_divide {w:World}{A D:Option Addr}{n cap m cd:Nat}{xs es:List Nat}(hx:Rd w A n cap xs) (hln:n≤274877906944) (hy:Rd w D m cd es) (hlm:m≤274877906944) (hwx:Wfb 4294967296 xs) (hwe:Wfb 4294967296 es) (hxt:n=0∨xs.getD (n-1) 0≠0) (hm0:0<m) (htop:es.getD (m-1) 0≠0):
  Calls Tryz.prog 175 #[.slice A n cap,.slice D m cd] w (Gv w (T2 (WD (nb 4294967296 xs/nb 4294967296 es)) (WD (nb 4294967296 xs%nb 4294967296 es)))):=by
 have hlen:=hx.len
 have hle:=hx.rv.le
 have hlem:=hy.len
 have hle2:=hy.rv.le
 refine sx_enter Tryz.func175 rfl (n:=143) rfl (bq rfl) (args:= [.slice A n cap,.slice D m cd]) (cw_keep [(0,.slice A n cap),(1,.slice D m cd)] ⟨rfl,rfl,trivial⟩ (sr (mv 2 rfl (ne_ (cw_seq (cw_seq ?_))))))
 by_cases hnm:n<m
 ·
  refine cw_region (mv 1 rfl (pu (v:= .int .i64 ((n:Nat):Int)) rfl (by kernel_rfl) (mv 1 rfl (pu (v:= .int .i64 ((m:Nat):Int)) rfl (by kernel_rfl) (wl_cmp rfl rfl rfl true (cb_lt_t (a:=n) (b:=m) rfl rfl (by omega)) (by decide) (ne_ (cw_true rfl (sr (mv 3 rfl (ne_ (cw_ret (eo_thenR (eo_ret [S0,.slice A n cap] rfl ⟨rfl,rfl,trivial⟩ ?_)))))))))))))
  have hlt:=small_of_top hwx hlen hlem hnm htop
  refine⟨_,rfl,⟨_,_,rfl,⟨_,_,_,rfl,?_⟩,⟨_,_,_,rfl,?_⟩⟩,(Ext.refl w)⟩
  ·rw [Nat.div_eq_of_lt hlt];exact Rd.nil _
  ·rw [Nat.mod_eq_of_lt hlt,db_of_top' b32 hwx (by rw [hlen];exact hxt)];exact hx
 ·
  refine cw_region (mv 1 rfl (pu (v:= .int .i64 ((n:Nat):Int)) rfl (by kernel_rfl) (mv 1 rfl (pu (v:= .int .i64 ((m:Nat):Int)) rfl (by kernel_rfl) (wl_cmp rfl rfl rfl false (cb_lt_f (a:=n) (b:=m) rfl rfl (by omega)) (by decide) (ne_ (cw_false rfl (cw_skip (eo_then (cw_seq ?_))))))))))
  have htb:=Wfb_getD (b:=4294967296) (by decide) hwe (m-1)
  refine cw_region (mv 1 rfl (ne_ (cw_seq (cw_block ?_))))
  refine cw_loop (T:=World×Nat)
   (fun⟨wr,f⟩=> [(0,.slice A n cap),(1,.slice D m cd),(6,.int .u64 ((f:Nat):Int))])
   (fun⟨wr,f⟩=>wr)
   (fun⟨wr,f⟩=>(Ext w wr)∧(1≤f)∧(f≤4294967295)∧(Rd wr A n cap xs)∧(Rd wr D m cd es))
   (fun⟨wr,f⟩=>4294967296-f)
   (⟨w,1⟩:World×Nat) ⟨(Ext.refl w),(by decide),(by decide),hx,hy⟩ rfl ⟨rfl,rfl,rfl,trivial⟩ ?_
  rintro⟨wr,f⟩ ⟨hw1,hf1,hf2,rl0,rl1⟩
  refine cw_re [(0,.slice A n cap),(1,.slice D m cd),(6,.int .u64 ((f:Nat):Int))] wr rfl ⟨rfl,rfl,rfl,trivial⟩ (cw_seq (cw_seq ?_))
  have hm:(es.getD (m-1) 0)*f≤4294967295*4294967295:=Nat.mul_le_mul (by omega) (by omega)
  by_cases hmul:(es.getD (m-1) 0)*f<2147483648
  ·
   have hm2:1*f≤(es.getD (m-1) 0)*f:=Nat.mul_le_mul_right _ (by omega)
   refine cw_region (mv 2 rfl (pu (v:= .int .i64 ((m:Nat):Int)) rfl (by kernel_rfl) (wl_ar rfl rfl rfl ((m-1:Nat):Int) (ai_sub (a:=m) (b:=1) rfl rfl (by omega) (by omega)) (by decide) ?_)))
   obtain⟨p1,hp1,hc1,hv1⟩:=(rl1).at (i:=m-1) (by omega)
   refine wl_idx rfl rfl rfl un_u64 sz_u64 (m-1) rfl (by omega) p1 hp1 (by decide) (wl_load rfl rfl (load_cell1 ag_u64 hc1) (by decide) (mv 1 rfl (wl_ar rfl rfl rfl (((es.getD (m-1) 0)*f:Nat):Int) (au_mul (a:=es.getD (m-1) 0) (b:=f) rfl rfl (by omega)) (by decide) (wl_cmp rfl rfl rfl true (cb_lt_t (a:=(es.getD (m-1) 0)*f) (b:=2147483648) rfl rfl (by omega)) (by decide) (ne_ (cw_true rfl (cw_skip (eo_then (cw_block (cw_region (mv 1 rfl (wl_ar rfl rfl rfl ((2*f:Nat):Int) (au_mul (a:=2) (b:=f) rfl rfl (by omega)) (by decide) (mv 1 rfl ?_)))))))))))))
   refine wl_nil (eo_block_normal (eo_round (⟨wr,2*f⟩:World×Nat) ⟨hw1,(by omega),(by omega),rl0,rl1⟩ (show 4294967296-2*f<4294967296-f by omega) rfl ⟨rfl,rfl,rfl,trivial⟩))
  ·
   refine cw_region (mv 2 rfl (pu (v:= .int .i64 ((m:Nat):Int)) rfl (by kernel_rfl) (wl_ar rfl rfl rfl ((m-1:Nat):Int) (ai_sub (a:=m) (b:=1) rfl rfl (by omega) (by omega)) (by decide) ?_)))
   obtain⟨p2,hp2,hc2,hv2⟩:=(rl1).at (i:=m-1) (by omega)
   refine wl_idx rfl rfl rfl un_u64 sz_u64 (m-1) rfl (by omega) p2 hp2 (by decide) (wl_load rfl rfl (load_cell1 ag_u64 hc2) (by decide) (mv 1 rfl (wl_ar rfl rfl rfl (((es.getD (m-1) 0)*f:Nat):Int) (au_mul (a:=es.getD (m-1) 0) (b:=f) rfl rfl (by omega)) (by decide) (wl_cmp rfl rfl rfl false (cb_lt_f (a:=(es.getD (m-1) 0)*f) (b:=2147483648) rfl rfl (by omega)) (by decide) (ne_ (cw_false rfl (cw_exit (eo_thenX (eo_loopX (eo_block_here (eo_then (sr (mv 1 rfl ?_)))))))))))))
   refine mv 1 rfl (cl (vs:= [.slice A n cap,.int .u64 ((f:Nat):Int)]) hw1 (ref3_scaled rl0 (by omega) hwx hf2) rfl (by kernel_rfl) fun xr5 v3 r5 e4 hw2=>?_)
   obtain⟨g6,l6,rfl,gb6,hb6,hl6,hwf6,hnv6⟩:=r5
   have ge7:w.heap.size≤g6:=Nat.le_trans hw1.size gb6
   have ne8:0<cap→∀a,A=some a→a.block≠g6:=fun hc a ha=>by have:=(rl0).rv.blk a ha hc;omega
   have ne9:0<cd→∀a,D=some a→a.block≠g6:=fun hc a ha=>by have:=(rl1).rv.blk a ha hc;omega
   refine mv 1 rfl (ne_ (sr (mv 2 rfl (cl (vs:= [.slice D m cd,.int .u64 ((f:Nat):Int)]) hw2 (ref3_scaled (rl1.ext e4) (by omega) hwe hf2) rfl (by kernel_rfl) fun xr12 v10 r12 e11 hw3=>?_))))
   obtain⟨g13,l13,rfl,gb13,hb13,hl13,hwf13,hnv13⟩:=r12
   have ge14:w.heap.size≤g13:=Nat.le_trans hw2.size gb13
   have q15:g6<g13:=Nat.lt_of_lt_of_le hb6.lt gb13
   have ne16:0<cap→∀a,A=some a→a.block≠g13:=fun hc a ha=>by have:=((rl0.ext e4)).rv.blk a ha hc;omega
   have ne17:0<cd→∀a,D=some a→a.block≠g13:=fun hc a ha=>by have:=((rl1.ext e4)).rv.blk a ha hc;omega
   refine mv 1 rfl (ne_ (sr (mv 1 rfl (cl (vs:= [.slice (some ⟨g13,0,none⟩) (m+1) (m+1)]) hw3 (ref3_Trim (hb13.rd0 hwf13.wf hl13 (by omega)) (by omega)) rfl (by kernel_rfl) fun xr20 v18 r20 e19 hw4=>?_))))
   obtain⟨k21,rfl,hk21,ht21,hv21⟩:=r20
   refine mv 1 rfl (ne_ (cw_seq ?_))
   have hD:=hnv13
   have hvd:=hv21 4294967296
   have hY0:=nb_pos_of_top (b:=4294967296) (by decide) (by omega) hlem htop
   have hDp:0<nb 4294967296 l13:=by rw [hD];exact Nat.mul_pos hY0 hf1
   have hkp:0<k21:=by refine Nat.pos_of_ne_zero fun e=>?_;rw [e] at hvd;simp only [List.take_zero,nb_nil] at hvd;omega
   have hhd:=dv_head hwf13 (by omega) hkp hvd
   have htopd:=Wfb_getD (b:=4294967296) (by decide) hwf13 (k21-1)
   refine cw_region (mv 1 rfl (pu (v:= .int .i64 ((n:Nat):Int)) rfl (by kernel_rfl) (mv 1 rfl (pu (v:= .int .i64 ((m:Nat):Int)) rfl (by kernel_rfl) (wl_ar rfl rfl rfl ((n-m:Nat):Int) (ai_sub (a:=n) (b:=m) rfl rfl (by omega) (by omega)) (by decide) (wl_ar rfl rfl rfl (((n-m)+1:Nat):Int) (ai_add (a:=n-m) (b:=1) rfl rfl (by omega)) (by decide) (wl_make rfl (k:=(n-m)+1) rfl rfl rfl un_u64 info64 rfl (by decide) (by omega) (by decide) fun g22 v23 hg24 hb25 e26=>?_)))))))
   rw [replicate_W64] at hb25
   have ge27:w.heap.size≤g22:=by rw [←hg24];exact hw4.size
   have q29:g6<g22:=by rw [←hg24];exact (hb6.ext (e11.trans e19)).lt
   have q30:g13<g22:=by rw [←hg24];exact (hb13.ext e19).lt
   have ne31:0<cap→∀a,A=some a→a.block≠g22:=fun hc a ha=>by have:=((rl0.ext (e4.trans (e11.trans e19)))).rv.blk a ha hc;omega
   have ne32:0<cd→∀a,D=some a→a.block≠g22:=fun hc a ha=>by have:=((rl1.ext (e4.trans (e11.trans e19)))).rv.blk a ha hc;omega
   clear hg24
   have hw5:=hw4.trans e26
   refine mv 1 rfl (ne_ (sr (mv 2 rfl (pu (v:= .int .i64 ((k21:Nat):Int)) rfl (by kernel_rfl) (wl_ar rfl rfl rfl ((k21-1:Nat):Int) (ai_sub (a:=k21) (b:=1) rfl rfl (by omega) (by omega)) (by decide) (wl_idx rfl rfl rfl un_u64 sz_u64 (k21-1) rfl (by omega) ⟨g13,k21-1,none⟩ (arr_at _ _) (by decide) (wl_load rfl rfl (load_word ag_u64 (hb13.ext (e19.trans e26)) (by rw [hl13];omega)) (by decide) (wl_ar rfl rfl rfl (((l13.getD (k21-1) 0)+1:Nat):Int) (au_add (a:=l13.getD (k21-1) 0) (b:=1) rfl rfl (by omega)) (by decide) (mv 1 rfl (ne_ (cw_seq (sr (mv 1 rfl ?_)))))))))))))
   refine pu (v:= .int .i64 ((n:Nat):Int)) rfl (by kernel_rfl) (mv 1 rfl (pu (v:= .int .i64 ((m:Nat):Int)) rfl (by kernel_rfl) (wl_ar rfl rfl rfl ((n-m:Nat):Int) (ai_sub (a:=n) (b:=m) rfl rfl (by omega) (by omega)) (by decide) (mv 1 rfl (ne_ (cw_block ?_))))))
   refine cw_loop (T:=World×Nat×Int×List Nat×List Nat)
    (fun⟨wr,k,ii,lq,lr⟩=> [(6,.int .u64 ((f:Nat):Int)),(7,.slice (some ⟨g6,0,none⟩) (n+1) (n+1)),(8,.slice (some ⟨g13,0,none⟩) k21 (m+1)),(9,.slice (some ⟨g22,0,none⟩) ((n-m)+1) ((n-m)+1)),(10,.int .u64 (((l13.getD (k21-1) 0)+1:Nat):Int)),(11,.int .i64 ii)])
    (fun⟨wr,k,ii,lq,lr⟩=>wr)
    (fun⟨wr,k,ii,lq,lr⟩=>(Ext w wr)∧(k≤n-m+1)∧(ii=(k:Int)-1)∧(Bk wr g6 67 (lr.map W64))∧(lr.length=n+1)∧(Bk wr g13 67 (l13.map W64))∧(Bk wr g22 67 (lq.map W64))∧(lq.length=n-m+1)∧(DO (nb 4294967296 xs*f) (nb 4294967296 l13) k lq lr))
    (fun⟨wr,k,ii,lq,lr⟩=>k)
    (⟨v23,n-m+1,_,_,_⟩:World×Nat×Int×List Nat×List Nat) ⟨hw5,Nat.le_refl _,(by omega),(hb6.ext (e11.trans (e19.trans e26))),hl6,(hb13.ext (e19.trans e26)),hb25,(List.length_replicate (n:=(n-m)+1) (a:=0)),DO.start hwf6 hnv6 hD hf1 (by have:=nb_lt hwx;rwa [hlen] at this) (nb_ge_of_top (by decide) (by omega) hlem htop) (by omega) (by omega)⟩ rfl ⟨rfl,rfl,rfl,rfl,rfl,rfl,trivial⟩ ?_
   rintro⟨wr,k,ii,lq,lr⟩ ⟨hw1,hk,hii,hbr,hlr,hbd,hbq,hlq,hO⟩
   refine cw_re [(6,.int .u64 ((f:Nat):Int)),(7,.slice (some ⟨g6,0,none⟩) (n+1) (n+1)),(8,.slice (some ⟨g13,0,none⟩) k21 (m+1)),(9,.slice (some ⟨g22,0,none⟩) ((n-m)+1) ((n-m)+1)),(10,.int .u64 (((l13.getD (k21-1) 0)+1:Nat):Int)),(11,.int .i64 ii)] wr rfl ⟨rfl,rfl,rfl,rfl,rfl,rfl,trivial⟩ (cw_seq (cw_seq ?_))
   by_cases hk0:0<k
   ·
    obtain⟨j,rfl⟩:∃j,k=j+1:=⟨k-1,by omega⟩
    obtain rfl:ii=(j:Int):=by omega
    refine cw_region (mv 1 rfl (wl_cmp rfl rfl rfl true (cb_ge_t (a:=j) (b:=0) rfl rfl (by omega)) (by decide) (ne_ (cw_true rfl (cw_skip (eo_then (cw_seq (cw_block (cw_block ?_)))))))))
    have hE:=hO.enter
    clear hO
    refine cw_loop (T:=World×List Nat×List Nat)
     (fun⟨wr,lq,lr⟩=> [(6,.int .u64 ((f:Nat):Int)),(7,.slice (some ⟨g6,0,none⟩) (n+1) (n+1)),(8,.slice (some ⟨g13,0,none⟩) k21 (m+1)),(9,.slice (some ⟨g22,0,none⟩) ((n-m)+1) ((n-m)+1)),(10,.int .u64 (((l13.getD (k21-1) 0)+1:Nat):Int)),(11,.int .i64 ((j:Nat):Int))])
     (fun⟨wr,lq,lr⟩=>wr)
     (fun⟨wr,lq,lr⟩=>(Ext w wr)∧(Bk wr g6 67 (lr.map W64))∧(lr.length=n+1)∧(Bk wr g13 67 (l13.map W64))∧(Bk wr g22 67 (lq.map W64))∧(lq.length=n-m+1)∧(DI (nb 4294967296 xs*f) (nb 4294967296 l13) j lq lr))
     (fun⟨wr,lq,lr⟩=>nb 4294967296 lr)
     (⟨wr,_,_⟩:World×List Nat×List Nat) ⟨hw1,hbr,hlr,hbd,hbq,hlq,hE⟩ rfl ⟨rfl,rfl,rfl,rfl,rfl,rfl,trivial⟩ ?_
    rintro⟨wr,lq,lr⟩ ⟨hw1,hbr,hlr,hbd,hbq,hlq,hI⟩
    refine cw_re [(6,.int .u64 ((f:Nat):Int)),(7,.slice (some ⟨g6,0,none⟩) (n+1) (n+1)),(8,.slice (some ⟨g13,0,none⟩) k21 (m+1)),(9,.slice (some ⟨g22,0,none⟩) ((n-m)+1) ((n-m)+1)),(10,.int .u64 (((l13.getD (k21-1) 0)+1:Nat):Int)),(11,.int .i64 ((j:Nat):Int))] wr rfl ⟨rfl,rfl,rfl,rfl,rfl,rfl,trivial⟩ (cw_block (cw_seq ?_))
    have hwr:=hI.wr
    have hb1:=Wfb_getD (b:=4294967296) (by decide) hwr ((j+k21)-1)
    have hb2:=Wfb_getD (b:=4294967296) (by decide) hwr (j+k21)
    by_cases hjk:j+k21<n+1
    ·
     have hT:=nb_digit2_le (b:=4294967296) (l:=lr) (i:=(j+k21)-1) (i':=j+k21) (by omega) (by omega)
     refine cw_region (mv 3 rfl (pu (v:= .int .i64 ((k21:Nat):Int)) rfl (by kernel_rfl) (wl_ar rfl rfl rfl ((j+k21:Nat):Int) (ai_add (a:=j) (b:=k21) rfl rfl (by omega)) (by decide) (wl_ar rfl rfl rfl (((j+k21)-1:Nat):Int) (ai_sub (a:=j+k21) (b:=1) rfl rfl (by omega) (by omega)) (by decide) (wl_idx rfl rfl rfl un_u64 sz_u64 ((j+k21)-1) rfl (by omega) ⟨g6,(j+k21)-1,none⟩ (arr_at _ _) (by decide) (wl_load rfl rfl (load_word ag_u64 hbr (by rw [hlr];omega)) (by decide) (mv 1 rfl (ne_ (cw_seq (sr (mv 2 rfl (pu (v:= .int .i64 ((k21:Nat):Int)) rfl (by kernel_rfl) (wl_ar rfl rfl rfl ((j+k21:Nat):Int) (ai_add (a:=j) (b:=k21) rfl rfl (by omega)) (by decide) ?_)))))))))))))
     refine mv 1 rfl (pu (v:= .int .i64 (((n+1):Nat):Int)) rfl (by kernel_rfl) (wl_cmp rfl rfl rfl true (cb_lt_t (a:=j+k21) (b:=n+1) rfl rfl (by omega)) (by decide) (ne_ (cw_true rfl (cw_region (mv 4 rfl (pu (v:= .int .i64 ((k21:Nat):Int)) rfl (by kernel_rfl) (wl_ar rfl rfl rfl ((j+k21:Nat):Int) (ai_add (a:=j) (b:=k21) rfl rfl (by omega)) (by decide) (wl_idx rfl rfl rfl un_u64 sz_u64 (j+k21) rfl (by omega) ⟨g6,j+k21,none⟩ (arr_at _ _) (by decide) (wl_load rfl rfl (load_word ag_u64 hbr (by rw [hlr];omega)) (by decide) (wl_ar rfl rfl rfl (((lr.getD (j+k21) 0)*4294967296:Nat):Int) (au_mul (a:=lr.getD (j+k21) 0) (b:=4294967296) rfl rfl (by omega)) (by decide) (wl_ar rfl rfl rfl (((lr.getD ((j+k21)-1) 0)+((lr.getD (j+k21) 0)*4294967296):Nat):Int) (au_add (a:=lr.getD ((j+k21)-1) 0) (b:=(lr.getD (j+k21) 0)*4294967296) rfl rfl (by omega)) (by decide) (mv 1 rfl ?_)))))))))))))
     refine ne_ (cw_seq ?_)
     have hfit:=dv_fit hhd hkp hT
     have hRlt:nb 4294967296 lr<nb 4294967296 l13*4294967296^(j+1):=Nat.lt_of_le_of_lt (Nat.le_add_left _ _) hI.lt
     by_cases hn0:((lr.getD ((j+k21)-1) 0)+((lr.getD (j+k21) 0)*4294967296))/((l13.getD (k21-1) 0)+1)=0
     ·
      by_cases hgo:nb 4294967296 l13*4294967296^j≤nb 4294967296 lr
      ·
       have hgo1:1*nb 4294967296 l13*4294967296^j≤nb 4294967296 lr:=by rw [Nat.one_mul];exact hgo
       refine cw_region (mv 2 rfl (wl_ar rfl rfl rfl ((((lr.getD ((j+k21)-1) 0)+((lr.getD (j+k21) 0)*4294967296))/((l13.getD (k21-1) 0)+1):Nat):Int) (au_quo (a:=(lr.getD ((j+k21)-1) 0)+((lr.getD (j+k21) 0)*4294967296)) (b:=(l13.getD (k21-1) 0)+1) rfl rfl (by omega) (by omega)) (by decide) (mv 1 rfl (ne_ (cw_seq (sr (mv 1 rfl (wl_cmp rfl rfl rfl true (cb_eq_t (a:=((lr.getD ((j+k21)-1) 0)+((lr.getD (j+k21) 0)*4294967296))/((l13.getD (k21-1) 0)+1)) (b:=0) rfl rfl (by omega)) (by decide) (ne_ (cw_true rfl (sr (mv 3 rfl (cl (vs:= [.slice (some ⟨g6,0,none⟩) (n+1) (n+1),.slice (some ⟨g13,0,none⟩) k21 (m+1),.int .i64 ((j:Nat):Int)]) hw1 (ref3_goes' (b:=true) (hbr.rd0 hwr.wf hlr (by omega)) (by omega) ((hbd.rd0 hwf13.wf hl13 (by omega)).take (k:=k21) (by omega) (by omega) (Nat.le_refl _)) hwr (Wfb_take hwf13 _) (by omega) (dv_big hI rfl hwf13 hvd) (by rw [hvd,decide_eq_true hgo])) rfl (by kernel_rfl) fun xr35 v33 r35 e34 hw2=>?_)))))))))))))
       obtain rfl:=r35
       refine mv 1 rfl (ne_ (cw_seq (sr (mv 1 rfl (pu (v:= .bool false) rfl (by kernel_rfl) (ne_ (cw_false rfl (cw_skip (eo_then (cw_region (mv 1 rfl (ne_ (cw_seq ?_)))))))))))))
       refine cw_region (mv 4 rfl ?_)
       have hqlt:=dv_lt hgo1 hRlt
       refine wl_call rfl rfl (vs:= [.slice (some ⟨g6,0,none⟩) (n+1) (n+1),.slice (some ⟨g13,0,none⟩) k21 (m+1),.int .u64 1,.int .i64 ((j:Nat):Int)]) (by kernel_rfl) (by decide) (ref3_takeOff (q:=1) (s:=j) (hbr.ext e34) hlr (by omega) hwr (((hbd.ext e34).rd0 hwf13.wf hl13 (by omega)).take (k:=k21) (by omega) (by omega) (Nat.le_refl _)) (Wfb_take hwf13 _) (fun _ a ha=>by cases ha;show g13≠g6;omega) hqlt (by omega) (by rw [hvd];exact hgo1)) ?_
       rintro _ v36 ⟨rfl,u37,l3,hb38,hl39,hwl3,hv3⟩
       rw [hvd] at hv3
       refine ret_intro ?_
       have hdg:=hI.digit hv3
       have hw3:=u37.ext hw2 ge7
       refine ne_ (cw_region (mv 4 rfl (wl_idx rfl rfl rfl un_u64 sz_u64 j rfl (by omega) ⟨g22,j,none⟩ (arr_at _ _) (by decide) (wl_load rfl rfl (load_word ag_u64 ((hbq.ext e34).updN u37 (by omega)) (by rw [hlq];omega)) (by decide) (mv 1 rfl (wl_ar rfl rfl rfl (((lq.getD j 0)+1:Nat):Int) (au_add (a:=lq.getD j 0) (b:=1) rfl rfl (by omega)) (by decide) (wl_idx rfl rfl rfl un_u64 sz_u64 j rfl (by omega) ⟨g22,j,none⟩ (arr_at _ _) (by decide) ?_)))))))
       have hb41:=((hbq.ext e34).updN u37 (by omega))
       refine wl_stored1 rfl rfl rfl sz_u64 rfl hb41 (len_map (by rw [hlq];omega)) rfl ((lq.set j ((lq.getD j 0)+1)).map W64) (map_W64_set _ _ _) fun v40 hb42 u43 hs44=>?_
       have hw4:=u43.ext hw3 ge27
       refine wl_nil (eo_block_normal (eo_round (⟨v40,_,_⟩:World×List Nat×List Nat) ⟨hw4,(hb38.updN u43 (by omega)),hl39,(((hbd.ext e34).updN u37 (by omega)).updN u43 (by omega)),hb42,(len_set (l:=lq) (hlq)),hI.step (by omega) hwl3 hv3⟩ (dv_less (Nat.le_refl 1) hDp hv3) rfl ⟨rfl,rfl,rfl,rfl,rfl,rfl,trivial⟩))
      ·
       refine cw_region (mv 2 rfl (wl_ar rfl rfl rfl ((((lr.getD ((j+k21)-1) 0)+((lr.getD (j+k21) 0)*4294967296))/((l13.getD (k21-1) 0)+1):Nat):Int) (au_quo (a:=(lr.getD ((j+k21)-1) 0)+((lr.getD (j+k21) 0)*4294967296)) (b:=(l13.getD (k21-1) 0)+1) rfl rfl (by omega) (by omega)) (by decide) (mv 1 rfl (ne_ (cw_seq (sr (mv 1 rfl (wl_cmp rfl rfl rfl true (cb_eq_t (a:=((lr.getD ((j+k21)-1) 0)+((lr.getD (j+k21) 0)*4294967296))/((l13.getD (k21-1) 0)+1)) (b:=0) rfl rfl (by omega)) (by decide) (ne_ (cw_true rfl (sr (mv 3 rfl (cl (vs:= [.slice (some ⟨g6,0,none⟩) (n+1) (n+1),.slice (some ⟨g13,0,none⟩) k21 (m+1),.int .i64 ((j:Nat):Int)]) hw1 (ref3_goes' (b:=false) (hbr.rd0 hwr.wf hlr (by omega)) (by omega) ((hbd.rd0 hwf13.wf hl13 (by omega)).take (k:=k21) (by omega) (by omega) (Nat.le_refl _)) hwr (Wfb_take hwf13 _) (by omega) (dv_big hI rfl hwf13 hvd) (by rw [hvd,decide_eq_false hgo])) rfl (by kernel_rfl) fun xr47 v45 r47 e46 hw2=>?_)))))))))))))
       obtain rfl:=r47
       refine mv 1 rfl (ne_ (cw_seq (sr (mv 1 rfl (pu (v:= .bool true) rfl (by kernel_rfl) (ne_ (cw_true rfl (cw_exit (eo_thenX (eo_thenX (eo_block_far (by decide) (eo_loopX (eo_block_here ?_)))))))))))))
       refine eo_block_normal (eo_then (cw_region (mv 1 rfl (wl_ar rfl rfl rfl (((j:Nat):Int)-1) (ar_i64s rfl (by omega) (by omega)) (by decide) (mv 1 rfl (wl_nil (eo_round (⟨v45,j,_,_,_⟩:World×Nat×Int×List Nat×List Nat) ⟨hw2,(by omega),(by omega),(hbr.ext e46),hlr,(hbd.ext e46),(hbq.ext e46),hlq,hI.leave hgo⟩ (show j<j+1 by omega) rfl ⟨rfl,rfl,rfl,rfl,rfl,rfl,trivial⟩)))))))
     ·
      refine cw_region (mv 2 rfl (wl_ar rfl rfl rfl ((((lr.getD ((j+k21)-1) 0)+((lr.getD (j+k21) 0)*4294967296))/((l13.getD (k21-1) 0)+1):Nat):Int) (au_quo (a:=(lr.getD ((j+k21)-1) 0)+((lr.getD (j+k21) 0)*4294967296)) (b:=(l13.getD (k21-1) 0)+1) rfl rfl (by omega) (by omega)) (by decide) (mv 1 rfl (ne_ (cw_seq (sr (mv 1 rfl (wl_cmp rfl rfl rfl false (cb_eq_f (a:=((lr.getD ((j+k21)-1) 0)+((lr.getD (j+k21) 0)*4294967296))/((l13.getD (k21-1) 0)+1)) (b:=0) rfl rfl (by omega)) (by decide) (ne_ (cw_false rfl (cw_skip (eo_then (cw_seq ?_)))))))))))))
      refine cw_region (mv 4 rfl ?_)
      have hqlt:=dv_lt hfit hRlt
      refine wl_call rfl rfl (vs:= [.slice (some ⟨g6,0,none⟩) (n+1) (n+1),.slice (some ⟨g13,0,none⟩) k21 (m+1),.int .u64 ((((lr.getD ((j+k21)-1) 0)+((lr.getD (j+k21) 0)*4294967296))/((l13.getD (k21-1) 0)+1):Nat):Int),.int .i64 ((j:Nat):Int)]) (by kernel_rfl) (by decide) (ref3_takeOff (q:=((lr.getD ((j+k21)-1) 0)+((lr.getD (j+k21) 0)*4294967296))/((l13.getD (k21-1) 0)+1)) (s:=j) hbr hlr (by omega) hwr ((hbd.rd0 hwf13.wf hl13 (by omega)).take (k:=k21) (by omega) (by omega) (Nat.le_refl _)) (Wfb_take hwf13 _) (fun _ a ha=>by cases ha;show g13≠g6;omega) hqlt (by omega) (by rw [hvd];exact hfit)) ?_
      rintro _ v48 ⟨rfl,u49,l3,hb50,hl51,hwl3,hv3⟩
      rw [hvd] at hv3
      refine ret_intro ?_
      have hdg:=hI.digit hv3
      have hw2:=u49.ext hw1 ge7
      refine ne_ (cw_region (mv 4 rfl (wl_idx rfl rfl rfl un_u64 sz_u64 j rfl (by omega) ⟨g22,j,none⟩ (arr_at _ _) (by decide) (wl_load rfl rfl (load_word ag_u64 (hbq.updN u49 (by omega)) (by rw [hlq];omega)) (by decide) (mv 1 rfl (wl_ar rfl rfl rfl (((lq.getD j 0)+(((lr.getD ((j+k21)-1) 0)+((lr.getD (j+k21) 0)*4294967296))/((l13.getD (k21-1) 0)+1)):Nat):Int) (au_add (a:=lq.getD j 0) (b:=((lr.getD ((j+k21)-1) 0)+((lr.getD (j+k21) 0)*4294967296))/((l13.getD (k21-1) 0)+1)) rfl rfl (by omega)) (by decide) (wl_idx rfl rfl rfl un_u64 sz_u64 j rfl (by omega) ⟨g22,j,none⟩ (arr_at _ _) (by decide) ?_)))))))
      have hb53:=(hbq.updN u49 (by omega))
      refine wl_stored1 rfl rfl rfl sz_u64 rfl hb53 (len_map (by rw [hlq];omega)) rfl ((lq.set j ((lq.getD j 0)+(((lr.getD ((j+k21)-1) 0)+((lr.getD (j+k21) 0)*4294967296))/((l13.getD (k21-1) 0)+1)))).map W64) (map_W64_set _ _ _) fun v52 hb54 u55 hs56=>?_
      have hw3:=u55.ext hw2 ge27
      refine wl_nil (eo_block_normal (eo_round (⟨v52,_,_⟩:World×List Nat×List Nat) ⟨hw3,(hb50.updN u55 (by omega)),hl51,((hbd.updN u49 (by omega)).updN u55 (by omega)),hb54,(len_set (l:=lq) (hlq)),hI.step (by omega) hwl3 hv3⟩ (dv_less (Nat.pos_of_ne_zero hn0) hDp hv3) rfl ⟨rfl,rfl,rfl,rfl,rfl,rfl,trivial⟩))
    ·
     have hT:=nb_digit_le (b:=4294967296) (l:=lr) (i:=(j+k21)-1) (by omega)
     refine cw_region (mv 3 rfl (pu (v:= .int .i64 ((k21:Nat):Int)) rfl (by kernel_rfl) (wl_ar rfl rfl rfl ((j+k21:Nat):Int) (ai_add (a:=j) (b:=k21) rfl rfl (by omega)) (by decide) (wl_ar rfl rfl rfl (((j+k21)-1:Nat):Int) (ai_sub (a:=j+k21) (b:=1) rfl rfl (by omega) (by omega)) (by decide) (wl_idx rfl rfl rfl un_u64 sz_u64 ((j+k21)-1) rfl (by omega) ⟨g6,(j+k21)-1,none⟩ (arr_at _ _) (by decide) (wl_load rfl rfl (load_word ag_u64 hbr (by rw [hlr];omega)) (by decide) (mv 1 rfl (ne_ (cw_seq (sr (mv 2 rfl (pu (v:= .int .i64 ((k21:Nat):Int)) rfl (by kernel_rfl) (wl_ar rfl rfl rfl ((j+k21:Nat):Int) (ai_add (a:=j) (b:=k21) rfl rfl (by omega)) (by decide) ?_)))))))))))))
     refine mv 1 rfl (pu (v:= .int .i64 (((n+1):Nat):Int)) rfl (by kernel_rfl) (wl_cmp rfl rfl rfl false (cb_lt_f (a:=j+k21) (b:=n+1) rfl rfl (by omega)) (by decide) (ne_ (cw_false rfl (cw_skip (eo_then (cw_seq ?_)))))))
     have hfit:=dv_fit hhd hkp hT
     have hRlt:nb 4294967296 lr<nb 4294967296 l13*4294967296^(j+1):=Nat.lt_of_le_of_lt (Nat.le_add_left _ _) hI.lt
     by_cases hn0:(lr.getD ((j+k21)-1) 0)/((l13.getD (k21-1) 0)+1)=0
     ·
      by_cases hgo:nb 4294967296 l13*4294967296^j≤nb 4294967296 lr
      ·
       have hgo1:1*nb 4294967296 l13*4294967296^j≤nb 4294967296 lr:=by rw [Nat.one_mul];exact hgo
       refine cw_region (mv 2 rfl (wl_ar rfl rfl rfl (((lr.getD ((j+k21)-1) 0)/((l13.getD (k21-1) 0)+1):Nat):Int) (au_quo (a:=lr.getD ((j+k21)-1) 0) (b:=(l13.getD (k21-1) 0)+1) rfl rfl (by omega) (by omega)) (by decide) (mv 1 rfl (ne_ (cw_seq (sr (mv 1 rfl (wl_cmp rfl rfl rfl true (cb_eq_t (a:=(lr.getD ((j+k21)-1) 0)/((l13.getD (k21-1) 0)+1)) (b:=0) rfl rfl (by omega)) (by decide) (ne_ (cw_true rfl (sr (mv 3 rfl (cl (vs:= [.slice (some ⟨g6,0,none⟩) (n+1) (n+1),.slice (some ⟨g13,0,none⟩) k21 (m+1),.int .i64 ((j:Nat):Int)]) hw1 (ref3_goes' (b:=true) (hbr.rd0 hwr.wf hlr (by omega)) (by omega) ((hbd.rd0 hwf13.wf hl13 (by omega)).take (k:=k21) (by omega) (by omega) (Nat.le_refl _)) hwr (Wfb_take hwf13 _) (by omega) (dv_big hI rfl hwf13 hvd) (by rw [hvd,decide_eq_true hgo])) rfl (by kernel_rfl) fun xr59 v57 r59 e58 hw2=>?_)))))))))))))
       obtain rfl:=r59
       refine mv 1 rfl (ne_ (cw_seq (sr (mv 1 rfl (pu (v:= .bool false) rfl (by kernel_rfl) (ne_ (cw_false rfl (cw_skip (eo_then (cw_region (mv 1 rfl (ne_ (cw_seq ?_)))))))))))))
       refine cw_region (mv 4 rfl ?_)
       have hqlt:=dv_lt hgo1 hRlt
       refine wl_call rfl rfl (vs:= [.slice (some ⟨g6,0,none⟩) (n+1) (n+1),.slice (some ⟨g13,0,none⟩) k21 (m+1),.int .u64 1,.int .i64 ((j:Nat):Int)]) (by kernel_rfl) (by decide) (ref3_takeOff (q:=1) (s:=j) (hbr.ext e58) hlr (by omega) hwr (((hbd.ext e58).rd0 hwf13.wf hl13 (by omega)).take (k:=k21) (by omega) (by omega) (Nat.le_refl _)) (Wfb_take hwf13 _) (fun _ a ha=>by cases ha;show g13≠g6;omega) hqlt (by omega) (by rw [hvd];exact hgo1)) ?_
       rintro _ v60 ⟨rfl,u61,l3,hb62,hl63,hwl3,hv3⟩
       rw [hvd] at hv3
       refine ret_intro ?_
       have hdg:=hI.digit hv3
       have hw3:=u61.ext hw2 ge7
       refine ne_ (cw_region (mv 4 rfl (wl_idx rfl rfl rfl un_u64 sz_u64 j rfl (by omega) ⟨g22,j,none⟩ (arr_at _ _) (by decide) (wl_load rfl rfl (load_word ag_u64 ((hbq.ext e58).updN u61 (by omega)) (by rw [hlq];omega)) (by decide) (mv 1 rfl (wl_ar rfl rfl rfl (((lq.getD j 0)+1:Nat):Int) (au_add (a:=lq.getD j 0) (b:=1) rfl rfl (by omega)) (by decide) (wl_idx rfl rfl rfl un_u64 sz_u64 j rfl (by omega) ⟨g22,j,none⟩ (arr_at _ _) (by decide) ?_)))))))
       have hb65:=((hbq.ext e58).updN u61 (by omega))
       refine wl_stored1 rfl rfl rfl sz_u64 rfl hb65 (len_map (by rw [hlq];omega)) rfl ((lq.set j ((lq.getD j 0)+1)).map W64) (map_W64_set _ _ _) fun v64 hb66 u67 hs68=>?_
       have hw4:=u67.ext hw3 ge27
       refine wl_nil (eo_block_normal (eo_round (⟨v64,_,_⟩:World×List Nat×List Nat) ⟨hw4,(hb62.updN u67 (by omega)),hl63,(((hbd.ext e58).updN u61 (by omega)).updN u67 (by omega)),hb66,(len_set (l:=lq) (hlq)),hI.step (by omega) hwl3 hv3⟩ (dv_less (Nat.le_refl 1) hDp hv3) rfl ⟨rfl,rfl,rfl,rfl,rfl,rfl,trivial⟩))
      ·
       refine cw_region (mv 2 rfl (wl_ar rfl rfl rfl (((lr.getD ((j+k21)-1) 0)/((l13.getD (k21-1) 0)+1):Nat):Int) (au_quo (a:=lr.getD ((j+k21)-1) 0) (b:=(l13.getD (k21-1) 0)+1) rfl rfl (by omega) (by omega)) (by decide) (mv 1 rfl (ne_ (cw_seq (sr (mv 1 rfl (wl_cmp rfl rfl rfl true (cb_eq_t (a:=(lr.getD ((j+k21)-1) 0)/((l13.getD (k21-1) 0)+1)) (b:=0) rfl rfl (by omega)) (by decide) (ne_ (cw_true rfl (sr (mv 3 rfl (cl (vs:= [.slice (some ⟨g6,0,none⟩) (n+1) (n+1),.slice (some ⟨g13,0,none⟩) k21 (m+1),.int .i64 ((j:Nat):Int)]) hw1 (ref3_goes' (b:=false) (hbr.rd0 hwr.wf hlr (by omega)) (by omega) ((hbd.rd0 hwf13.wf hl13 (by omega)).take (k:=k21) (by omega) (by omega) (Nat.le_refl _)) hwr (Wfb_take hwf13 _) (by omega) (dv_big hI rfl hwf13 hvd) (by rw [hvd,decide_eq_false hgo])) rfl (by kernel_rfl) fun xr71 v69 r71 e70 hw2=>?_)))))))))))))
       obtain rfl:=r71
       refine mv 1 rfl (ne_ (cw_seq (sr (mv 1 rfl (pu (v:= .bool true) rfl (by kernel_rfl) (ne_ (cw_true rfl (cw_exit (eo_thenX (eo_thenX (eo_block_far (by decide) (eo_loopX (eo_block_here ?_)))))))))))))
       refine eo_block_normal (eo_then (cw_region (mv 1 rfl (wl_ar rfl rfl rfl (((j:Nat):Int)-1) (ar_i64s rfl (by omega) (by omega)) (by decide) (mv 1 rfl (wl_nil (eo_round (⟨v69,j,_,_,_⟩:World×Nat×Int×List Nat×List Nat) ⟨hw2,(by omega),(by omega),(hbr.ext e70),hlr,(hbd.ext e70),(hbq.ext e70),hlq,hI.leave hgo⟩ (show j<j+1 by omega) rfl ⟨rfl,rfl,rfl,rfl,rfl,rfl,trivial⟩)))))))
     ·
      refine cw_region (mv 2 rfl (wl_ar rfl rfl rfl (((lr.getD ((j+k21)-1) 0)/((l13.getD (k21-1) 0)+1):Nat):Int) (au_quo (a:=lr.getD ((j+k21)-1) 0) (b:=(l13.getD (k21-1) 0)+1) rfl rfl (by omega) (by omega)) (by decide) (mv 1 rfl (ne_ (cw_seq (sr (mv 1 rfl (wl_cmp rfl rfl rfl false (cb_eq_f (a:=(lr.getD ((j+k21)-1) 0)/((l13.getD (k21-1) 0)+1)) (b:=0) rfl rfl (by omega)) (by decide) (ne_ (cw_false rfl (cw_skip (eo_then (cw_seq ?_)))))))))))))
      refine cw_region (mv 4 rfl ?_)
      have hqlt:=dv_lt hfit hRlt
      refine wl_call rfl rfl (vs:= [.slice (some ⟨g6,0,none⟩) (n+1) (n+1),.slice (some ⟨g13,0,none⟩) k21 (m+1),.int .u64 (((lr.getD ((j+k21)-1) 0)/((l13.getD (k21-1) 0)+1):Nat):Int),.int .i64 ((j:Nat):Int)]) (by kernel_rfl) (by decide) (ref3_takeOff (q:=(lr.getD ((j+k21)-1) 0)/((l13.getD (k21-1) 0)+1)) (s:=j) hbr hlr (by omega) hwr ((hbd.rd0 hwf13.wf hl13 (by omega)).take (k:=k21) (by omega) (by omega) (Nat.le_refl _)) (Wfb_take hwf13 _) (fun _ a ha=>by cases ha;show g13≠g6;omega) hqlt (by omega) (by rw [hvd];exact hfit)) ?_
      rintro _ v72 ⟨rfl,u73,l3,hb74,hl75,hwl3,hv3⟩
      rw [hvd] at hv3
      refine ret_intro ?_
      have hdg:=hI.digit hv3
      have hw2:=u73.ext hw1 ge7
      refine ne_ (cw_region (mv 4 rfl (wl_idx rfl rfl rfl un_u64 sz_u64 j rfl (by omega) ⟨g22,j,none⟩ (arr_at _ _) (by decide) (wl_load rfl rfl (load_word ag_u64 (hbq.updN u73 (by omega)) (by rw [hlq];omega)) (by decide) (mv 1 rfl (wl_ar rfl rfl rfl (((lq.getD j 0)+((lr.getD ((j+k21)-1) 0)/((l13.getD (k21-1) 0)+1)):Nat):Int) (au_add (a:=lq.getD j 0) (b:=(lr.getD ((j+k21)-1) 0)/((l13.getD (k21-1) 0)+1)) rfl rfl (by omega)) (by decide) (wl_idx rfl rfl rfl un_u64 sz_u64 j rfl (by omega) ⟨g22,j,none⟩ (arr_at _ _) (by decide) ?_)))))))
      have hb77:=(hbq.updN u73 (by omega))
      refine wl_stored1 rfl rfl rfl sz_u64 rfl hb77 (len_map (by rw [hlq];omega)) rfl ((lq.set j ((lq.getD j 0)+((lr.getD ((j+k21)-1) 0)/((l13.getD (k21-1) 0)+1)))).map W64) (map_W64_set _ _ _) fun v76 hb78 u79 hs80=>?_
      have hw3:=u79.ext hw2 ge27
      refine wl_nil (eo_block_normal (eo_round (⟨v76,_,_⟩:World×List Nat×List Nat) ⟨hw3,(hb74.updN u79 (by omega)),hl75,((hbd.updN u73 (by omega)).updN u79 (by omega)),hb78,(len_set (l:=lq) (hlq)),hI.step (by omega) hwl3 hv3⟩ (dv_less (Nat.pos_of_ne_zero hn0) hDp hv3) rfl ⟨rfl,rfl,rfl,rfl,rfl,rfl,trivial⟩))
   ·
    obtain rfl:k=0:=by omega
    refine cw_region (mv 1 rfl (wl_cmp rfl rfl rfl false (ge_f (by omega)) (by decide) (ne_ (cw_false rfl (cw_exit (eo_thenX (eo_loopX (eo_block_here (eo_then (sr (mv 1 rfl (ne_ (cw_seq ?_)))))))))))))
    refine sr (mv 1 rfl (pu (v:= .int .i64 (((n+1):Nat):Int)) rfl (by kernel_rfl) (wl_ar rfl rfl rfl (((n+1)-1:Nat):Int) (ai_sub (a:=n+1) (b:=1) rfl rfl (by omega) (by omega)) (by decide) (mv 1 rfl (ne_ (cw_block ?_))))))
    refine cw_loop (T:=World×Nat×Int×Nat×List Nat)
     (fun⟨wr,k,ii,rest,l⟩=> [(6,.int .u64 ((f:Nat):Int)),(7,.slice (some ⟨g6,0,none⟩) (n+1) (n+1)),(9,.slice (some ⟨g22,0,none⟩) ((n-m)+1) ((n-m)+1)),(15,.int .u64 ((rest:Nat):Int)),(16,.int .i64 ii)])
     (fun⟨wr,k,ii,rest,l⟩=>wr)
     (fun⟨wr,k,ii,rest,l⟩=>(Ext w wr)∧(k≤n+1)∧(ii=(k:Int)-1)∧(Bk wr g6 67 (l.map W64))∧(Bk wr g22 67 (lq.map W64))∧(DF f lr k rest l))
     (fun⟨wr,k,ii,rest,l⟩=>k)
     (⟨wr,n+1,_,0,lr⟩:World×Nat×Int×Nat×List Nat) ⟨hw1,Nat.le_refl _,(by omega),hbr,hbq,DF.start hO.wr hf1 hlr⟩ rfl ⟨rfl,rfl,rfl,rfl,rfl,trivial⟩ ?_
    rintro⟨wr,k,ii,rest,l⟩ ⟨hw1,hk,hii,hbr,hbq,hF⟩
    refine cw_re [(6,.int .u64 ((f:Nat):Int)),(7,.slice (some ⟨g6,0,none⟩) (n+1) (n+1)),(9,.slice (some ⟨g22,0,none⟩) ((n-m)+1) ((n-m)+1)),(15,.int .u64 ((rest:Nat):Int)),(16,.int .i64 ii)] wr rfl ⟨rfl,rfl,rfl,rfl,rfl,trivial⟩ ?_
    have hll:=hF.len
    rw [hlr] at hll
    refine cw_seq (cw_seq ?_)
    by_cases hk0:0<k
    ·
     obtain⟨j,rfl⟩:∃j,k=j+1:=⟨k-1,by omega⟩
     obtain rfl:ii=(j:Int):=by omega
     refine cw_region (mv 1 rfl (wl_cmp rfl rfl rfl true (cb_ge_t (a:=j) (b:=0) rfl rfl (by omega)) (by decide) (ne_ (cw_true rfl (cw_skip (eo_then (cw_seq (cw_block (cw_seq ?_)))))))))
     have hdig:=hF.digit
     have hb1:=Wfb_getD (b:=4294967296) (by decide) hF.wf j
     have hrf:=hF.rf
     refine cw_region (mv 1 rfl (wl_ar rfl rfl rfl ((rest*4294967296:Nat):Int) (au_mul (a:=rest) (b:=4294967296) rfl rfl (by omega)) (by decide) (mv 2 rfl (wl_idx rfl rfl rfl un_u64 sz_u64 j rfl (by omega) ⟨g6,j,none⟩ (arr_at _ _) (by decide) (wl_load rfl rfl (load_word ag_u64 hbr (by rw [hll];omega)) (by decide) (wl_ar rfl rfl rfl (((rest*4294967296)+(l.getD j 0):Nat):Int) (au_add (a:=rest*4294967296) (b:=l.getD j 0) rfl rfl (by omega)) (by decide) (mv 1 rfl (ne_ (sr (mv 4 rfl (wl_ar rfl rfl rfl ((((rest*4294967296)+(l.getD j 0))/f:Nat):Int) (au_quo (a:=(rest*4294967296)+(l.getD j 0)) (b:=f) rfl rfl (by omega) (by omega)) (by decide) (wl_idx rfl rfl rfl un_u64 sz_u64 j rfl (by omega) ⟨g6,j,none⟩ (arr_at _ _) (by decide) ?_))))))))))))
     have hb82:=hbr
     refine wl_stored1 rfl rfl rfl sz_u64 rfl hb82 (len_map (by rw [hll];omega)) rfl ((l.set j (((rest*4294967296)+(l.getD j 0))/f)).map W64) (map_W64_set _ _ _) fun v81 hb83 u84 hs85=>?_
     have hw2:=u84.ext hw1 ge7
     refine ne_ (cw_region (mv 2 rfl (wl_ar rfl rfl rfl ((((rest*4294967296)+(l.getD j 0))%f:Nat):Int) (au_rem (a:=(rest*4294967296)+(l.getD j 0)) (b:=f) rfl rfl (by omega)) (by decide) (mv 1 rfl (wl_nil (eo_block_normal (eo_then (cw_region (mv 1 rfl (wl_ar rfl rfl rfl (((j:Nat):Int)-1) (ar_i64s rfl (by omega) (by omega)) (by decide) (mv 1 rfl (wl_nil (eo_round (⟨v81,j,_,_,_⟩:World×Nat×Int×Nat×List Nat) ⟨hw2,(by omega),rfl,hb83,(hbq.updN u84 (by omega)),hF.step (by omega) hdig hf1⟩ (show j<j+1 by omega) rfl ⟨rfl,rfl,rfl,rfl,rfl,trivial⟩)))))))))))))
    ·
     obtain rfl:k=0:=by omega
     refine cw_region (mv 1 rfl (wl_cmp rfl rfl rfl false (ge_f (by omega)) (by decide) (ne_ (cw_false rfl (cw_exit (eo_thenX (eo_loopX (eo_block_here (eo_then (sr (mv 1 rfl (cl (vs:= [.slice (some ⟨g22,0,none⟩) ((n-m)+1) ((n-m)+1)]) hw1 (ref3_Trim (hbq.rd0 hO.wq.wf hlq (by omega)) (by omega)) rfl (by kernel_rfl) fun xr88 v86 r88 e87 hw2=>?_))))))))))))
     obtain⟨k89,rfl,hk89,ht89,hv89⟩:=r88
     refine mv 1 rfl (cl (vs:= [.slice (some ⟨g6,0,none⟩) (n+1) (n+1)]) hw2 (ref3_Trim ((hbr.ext e87).rd0 hF.wf.wf hll (by omega)) (by omega)) rfl (by kernel_rfl) fun xr92 v90 r92 e91 hw3=>?_)
     obtain⟨k93,rfl,hk93,ht93,hv93⟩:=r92
     refine mv 2 rfl (ne_ (cw_ret (eo_ret [.slice (some ⟨g22,0,none⟩) k89 ((n-m)+1),.slice (some ⟨g6,0,none⟩) k93 (n+1)] rfl ⟨rfl,rfl,trivial⟩ ?_)))
     obtain⟨e1,e2⟩:=dv_done hO hD hF
     refine⟨_,rfl,⟨_,_,rfl,⟨_,_,_,rfl,?_⟩,⟨_,_,_,rfl,?_⟩⟩,hw3⟩
     ·rw [←e1];exact ((hbq.ext (e87.trans e91)).rd0 hO.wq.wf hlq (by omega)).trim hO.wq hk89 ht89 hv89
     ·rw [←e2];exact ((hbr.ext (e87.trans e91)).rd0 hF.wf.wf hll (by omega)).trim hF.wf hk93 ht93 hv93
theorem ref3_words_ {w:World}{b:Nat}(hb:b≤w.heap.size){A:Option Addr}{n cap m:Nat}(hx:Rd w A n cap (db 4294967296 m)) (hln:n≤1099511627776):
  Calls Tryz.prog 176 #[.slice A n cap] w (Gv w (WR b m)):=by
 have h:=ref3_words hx hln (Wfb_db b32 _)
 rw [nb_db b32] at h
 exact h.mono (Gv.imp (WR.imp hb))
theorem ref3_divide_ {w:World}{A D:Option Addr}{n cap m cd X Y:Nat}(hx:Rd w A n cap (db 4294967296 X)) (hln:n≤274877906944) (hy:Rd w D m cd (db 4294967296 Y)) (hlm:m≤274877906944) (hY:Y≠0):
  Calls Tryz.prog 175 #[.slice A n cap,.slice D m cd] w (Gv w (T2 (WD (X/Y)) (WD (X%Y)))):=by
 have hl:=hx.len
 have hl2:=hy.len
 have h1:=db_top b32 X
 have h2:=db_top b32 Y
 rw [hl] at h1
 rw [hl2] at h2
 have hm:0<m:=by
  refine Nat.pos_of_ne_zero fun e=>hY ?_
  rw [←len_db_zero b32 (n:=Y),hl2,e]
 have h:=ref3_divide hx hln hy hlm (Wfb_db b32 _) (Wfb_db b32 _) h1 hm (by omega)
 rw [nb_db b32,nb_db b32] at h
 exact h
theorem len_db32 {xs:List Nat}(h:Wf xs):(db 4294967296 (nv xs)).length≤2*xs.length:=by
 refine len_db_le b32 ?_
 have:=nv_lt h
 rwa [WB_32,←Nat.pow_mul] at this
theorem Rd.hl {w:World}{A:Option Addr}{c k:Nat}{xs:List Nat}{m:Nat}{w0:World}{A0:Option Addr}{n0 c0:Nat}(h:Rd w A k c (db 4294967296 m)) (hx:Rd w0 A0 n0 c0 xs) (hm:m≤nv xs):k≤2*n0:=by
 have h1:=h.len
 have h2:=len_db32 hx.wf
 rw [hx.len] at h2
 have h3:=len_db_mono b32 hm
 omega
set_option maxHeartbeats 4000000 in
theorem ref3_DivMod_ok {w:World}{A D:Option Addr}{n cap m cd:Nat}{xs ys:List Nat}(hx:Rd w A n cap xs) (hln:n≤137438953472) (hy:Rd w D m cd ys) (hlm:m≤137438953472) (hy0:nv ys≠0):
    Calls Tryz.prog 148 #[.slice A n cap,.slice D m cd] w (Gv w (T3 (WR w.heap.size (nv xs/nv ys)) (WR w.heap.size (nv xs%nv ys)) (Is (.int .i64 0)))):=by
 refine sx_enter Tryz.func148 rfl (n:=28) rfl (bq rfl) (args:= [.slice A n cap,.slice D m cd]) (cw_keep [(0,.slice A n cap),(1,.slice D m cd)] ⟨rfl,rfl,trivial⟩ (sr (mv 3 rfl (ne_ (sr (mv 1 rfl (cl (vs:= [.slice D m cd]) (Ext.refl w) (ref3_halves hy (by omega)) rfl (by kernel_rfl) fun xr3 v1 r3 e2 hw1=>?_)))))))
 obtain⟨A4,n4,c4,rfl,rd4⟩:=r3
 refine mv 1 rfl (ne_ (cw_seq (cw_seq ?_)))
 have hdl:=rd4.hl hy (Nat.le_refl _)
 have hlz:=rd4.len
 have hlp:n4≠0:=fun e=>hy0 (by rw [←len_db_zero b32 (n:=nv ys),hlz,e])
 refine cw_region (mv 1 rfl (pu (v:= .int .i64 ((n4:Nat):Int)) rfl (by kernel_rfl) (wl_cmp rfl rfl rfl false (cb_eq_f (a:=n4) (b:=0) rfl rfl (by omega)) (by decide) (ne_ (cw_false rfl (cw_skip (eo_then (sr (mv 1 rfl (cl (vs:= [.slice A n cap]) hw1 (ref3_halves (hx.ext e2) (by omega)) rfl (by kernel_rfl) fun xr7 v5 r7 e6 hw2=>?_))))))))))
 obtain⟨A8,n8,c8,rfl,rd8⟩:=r7
 refine mv 1 rfl (ne_ (cw_seq ?_))
 have hdl2:=rd8.hl hx (Nat.le_refl _)
 refine cw_region (mv 2 rfl (cl (vs:= [.slice A8 n8 c8,.slice A4 n4 c4]) hw2 (ref3_divide_ rd8 (by omega) (rd4.ext e6) (by omega) hy0) rfl (by kernel_rfl) fun xr11 v9 r11 e10 hw3=>?_))
 obtain⟨_,_,rfl,⟨A13,n13,c13,rfl,rd13⟩,⟨A14,n14,c14,rfl,rd14⟩⟩:=r11
 refine mv 1 rfl (pu (v:= .slice A13 n13 c13) rfl (by kernel_rfl) (pu (v:= .slice A14 n14 c14) rfl (by kernel_rfl) (mv 2 rfl (ne_ (cw_seq ?_)))))
 have hdl3:=rd13.hl hx (Nat.div_le_self _ _)
 have hdl4:=rd14.hl hx (Nat.mod_le _ _)
 refine cw_region (mv 1 rfl (cl (vs:= [.slice A13 n13 c13]) hw3 (ref3_words_ hw3.size rd13 (by omega)) rfl (by kernel_rfl) fun xr17 v15 r17 e16 hw4=>?_))
 obtain⟨A18,n18,c18,rfl,j18,o18⟩:=r17
 refine mv 1 rfl (cl (vs:= [.slice A14 n14 c14]) hw4 (ref3_words_ hw4.size (rd14.ext e16) (by omega)) rfl (by kernel_rfl) fun xr21 v19 r21 e20 hw5=>?_)
 obtain⟨A22,n22,c22,rfl,j22,o22⟩:=r21
 refine mv 3 rfl (ne_ (cw_ret (eo_ret [.slice A18 n18 c18,.slice A22 n22 c22,I0] rfl ⟨rfl,rfl,rfl,trivial⟩ ?_)))
 exact⟨_,rfl,⟨_,_,_,rfl,⟨_,_,_,rfl,j18,(o18.ext e20)⟩,⟨_,_,_,rfl,j22,o22⟩,rfl⟩,hw5⟩
set_option maxHeartbeats 4000000 in
theorem ref3_DivMod_bad {w:World}{A D:Option Addr}{n cap m cd:Nat}{xs ys:List Nat}(hy:Rd w D m cd ys) (hlm:m≤137438953472) (hy0:nv ys=0):
    Calls Tryz.prog 148 #[.slice A n cap,.slice D m cd] w (Gv w (Is (.tuple #[.slice none 0 0,.slice none 0 0,.int .i64 4]))):=by
 refine sx_enter Tryz.func148 rfl (n:=28) rfl (bq rfl) (args:= [.slice A n cap,.slice D m cd]) (cw_keep [(0,.slice A n cap),(1,.slice D m cd)] ⟨rfl,rfl,trivial⟩ (sr (mv 3 rfl (ne_ (sr (mv 1 rfl (cl (vs:= [.slice D m cd]) (Ext.refl w) (ref3_halves hy (by omega)) rfl (by kernel_rfl) fun xr3 v1 r3 e2 hw1=>?_)))))))
 obtain⟨A4,n4,c4,rfl,rd4⟩:=r3
 refine mv 1 rfl (ne_ (cw_seq (cw_seq ?_)))
 have hdl:=rd4.hl hy (Nat.le_refl _)
 have hlz:=rd4.len
 rw [hy0,db_zero] at hlz
 simp only [List.length_nil] at hlz
 refine cw_region (mv 1 rfl (pu (v:= .int .i64 ((n4:Nat):Int)) rfl (by kernel_rfl) (wl_cmp rfl rfl rfl true (cb_eq_t (a:=n4) (b:=0) rfl rfl (by omega)) (by decide) (ne_ (cw_true rfl (sr (mv 3 rfl (ne_ (cw_ret (eo_thenR (eo_ret [S0,S0,.int .i64 4] rfl ⟨rfl,rfl,rfl,trivial⟩ ?_)))))))))))
 exact⟨_,rfl,rfl,hw1⟩
theorem Zi.sg {w:World}{s:Bool}{A:Option Addr}{n cap:Nat}{z:Int}(h:Zi w s A n cap z):Go.Proofs.YthggegdkpalgbaaGreatDoor.sg s z.natAbs=z:=by
 obtain⟨xs,_,rfl⟩:=h
 rw [sg_abs]
theorem ln_eq_zero {x:Int}(h:ln x=0):x=0:=by
 have:=len_wd_zero.1 (show (wd x.natAbs).length=0 from h)
 omega
theorem ln_sg (s:Bool) (m:Nat):ln (sg s m)=(wd m).length:=by unfold ln;rw [sg_abs]
theorem scmp_m1 {x y:Int}(h:x<y):scmp x y= -1:=by unfold scmp;rw [if_pos h]
theorem scmp_p1 {x y:Int}(h:y<x):scmp x y=1:=by unfold scmp;rw [if_neg (by omega),if_neg (by omega)]
theorem scmp_z {x y:Int}(h:x=y):scmp x y=0:=scmp_zero.2 h
theorem scmp_diff_lt {x y:Int}(h:scmp x 0<scmp y 0):scmp x y= -1:=scmp_m1 (by unfold scmp at h;split at h <;> split at h <;> (try split at h) <;> omega)
theorem scmp_diff_gt {x y:Int}(h:scmp y 0<scmp x 0):scmp x y=1:=scmp_p1 (by unfold scmp at h;split at h <;> split at h <;> (try split at h) <;> omega)
theorem scmp_same {x y:Int}(h:scmp x 0=scmp y 0):scmp x 0*cmp3 (Int.natAbs x) (Int.natAbs y)=scmp x y:=by
 rcases Int.lt_trichotomy x 0 with hx | hx | hx
 ·have hy:y<0:=scmp_neg.1 (by rw [←h,scmp_m1 hx];decide)
  rw [scmp_m1 hx]
  unfold scmp cmp3
  by_cases h1:x<y
  ·rw [if_neg (by omega),if_neg (by omega),if_pos h1];rfl
  ·by_cases h2:x=y
   ·rw [if_neg (by omega),if_pos (by omega),if_neg h1,if_pos h2];rfl
   ·rw [if_pos (by omega),if_neg h1,if_neg h2];rfl
 ·subst hx
  have hy:y=0:=scmp_zero.1 (by rw [←h];rfl)
  subst hy;rfl
 ·have hy:0<y:=scmp_pos.1 (by rw [←h,scmp_p1 hx];decide)
  rw [scmp_p1 hx,Int.one_mul]
  unfold scmp cmp3
  by_cases h1:x<y
  ·rw [if_pos (by omega),if_pos h1]
  ·by_cases h2:x=y
   ·rw [if_neg (by omega),if_pos (by omega),if_neg h1,if_pos h2]
   ·rw [if_neg (by omega),if_neg (by omega),if_neg h1,if_neg h2]
theorem cmp3_ge_t {x y:Nat}(h:y≤x):cmpB .geq (cmp3 x y) 0=some true:=by
 have e:¬cmp3 x y<0:=fun e=>by have:=cmp3_neg.1 e;omega
 exact ge_t (by omega)
theorem cmp3_ge_f {x y:Nat}(h:¬y≤x):cmpB .geq (cmp3 x y) 0=some false:=by
 have e:=cmp3_neg.2 (show x<y by omega)
 exact ge_f (by omega)
section
variable {w:World}{A B:Option Addr}{n cap m cap' i j:Nat}
theorem g_ref1_Least {b:Nat}(hb:b≤w.heap.size) (hx:Wi w A n cap i) (hl:n≤68719476735):Calls Tryz.prog 141 #[.slice A n cap] w (Gv w (WR b i)):=by
 obtain⟨xs,h1,rfl⟩:=hx
 exact (ref1_Least h1 (by omega)).mono (gw hb)
theorem g_ref1_Add {b:Nat}(hb:b≤w.heap.size) (hx:Wi w A n cap i) (hl:n≤68719476735) (hy:Wi w B m cap' j) (hl':m≤68719476735):Calls Tryz.prog 103 #[.slice A n cap,.slice B m cap'] w (Gv w (WR b (i+j))):=by
 obtain⟨xs,h1,rfl⟩:=hx
 obtain⟨ys,h2,rfl⟩:=hy
 exact (ref1_Add h1 (by omega) h2 (by omega)).mono (gw hb)
theorem g_ref1_Cmp (hx:Wi w A n cap i) (hl:n≤68719476735) (hy:Wi w B m cap' j) (hl':m≤68719476735):Calls Tryz.prog 102 #[.slice A n cap,.slice B m cap'] w (Gv w (Is (.int .i64 (cmp3 i j)))):=by
 obtain⟨xs,h1,rfl⟩:=hx
 obtain⟨ys,h2,rfl⟩:=hy
 exact (ref1_Cmp h1 (by omega) h2 (by omega)).mono gcmp
theorem g_ref1_Sub {b:Nat}(hb:b≤w.heap.size) (hx:Wi w A n cap i) (hl:n≤68719476735) (hy:Wi w B m cap' j) (hl':m≤68719476735) (hij:j≤i):Calls Tryz.prog 104 #[.slice A n cap,.slice B m cap'] w (Gv w (T2 (WR b (i-j)) (Is (.int .i64 0)))):=by
 obtain⟨xs,h1,rfl⟩:=hx
 obtain⟨ys,h2,rfl⟩:=hy
 exact (ref1_Sub h1 (by omega) h2 (by omega) hij).mono (Gv.imp (T2.imp (WR.imp hb) Is.imp))
theorem g_ref2_Mul {b:Nat}(hb:b≤w.heap.size) (hx:Wi w A n cap i) (hl:n≤68719476735) (hy:Wi w B m cap' j) (hl':m≤68719476735):Calls Tryz.prog 105 #[.slice A n cap,.slice B m cap'] w (Gv w (WR b (i*j))):=by
 obtain⟨xs,h1,rfl⟩:=hx
 obtain⟨ys,h2,rfl⟩:=hy
 exact (ref2_Mul h1 hl h2 hl').mono (gw hb)
theorem g_ref3_DivMod {b:Nat}(hb:b≤w.heap.size) (hx:Wi w A n cap i) (hl:n≤68719476735) (hy:Wi w B m cap' j) (hl':m≤68719476735) (h0:j≠0):Calls Tryz.prog 148 #[.slice A n cap,.slice B m cap'] w (Gv w (T3 (WR b (i/j)) (WR b (i%j)) (Is (.int .i64 0)))):=by
 obtain⟨xs,h1,rfl⟩:=hx
 obtain⟨ys,h2,rfl⟩:=hy
 exact (ref3_DivMod_ok h1 (by omega) h2 (by omega) h0).mono (Gv.imp (T3.imp (WR.imp hb) (WR.imp hb) Is.imp))
theorem g_ref3_DivMod_bad (hy:Wi w B m cap' j) (hl':m≤68719476735) (h0:j=0):Calls Tryz.prog 148 #[.slice A n cap,.slice B m cap'] w (Gv w (Is (.tuple #[.slice none 0 0,.slice none 0 0,.int .i64 4]))):=by
 obtain⟨ys,h2,rfl⟩:=hy
 exact ref3_DivMod_bad (xs:= []) h2 (by omega) h0
end
set_option maxHeartbeats 4000000 in
theorem g_ref5_made {w:World}{s:Bool}{A:Option Addr}{n cap m:Nat}{b:Nat}(hb:b≤w.heap.size) (hx:Wi w A n cap m) (hl:n≤68719476735):
    Calls Tryz.prog 101 #[.bool s,.slice A n cap] w (Gv w (ZR b (sg s m))):=by
 refine Calls.mono (R:=Gv w (ZR w.heap.size (sg s m))) ?_ (Gv.imp (ZR.imp hb))
 refine sx_enter Tryz.func101 rfl (n:=16) rfl (bq rfl) (args:= [.bool s,.slice A n cap]) (cw_keep [(0,.bool s),(1,.slice A n cap)] ⟨rfl,rfl,trivial⟩ (sr (al [F0,S0] (Ext.refl w) (fun _=>by kernel_rfl) rfl fun g1 v2 hb4 ge5 e3 hw1=>(ne_ (sr (mv 1 rfl (cl (vs:= [.slice A n cap]) hw1 (g_ref1_Least hw1.size (hx.ext hw1) (lx_ hl rfl)) rfl (by kernel_rfl) fun xr8 v6 r8 e7 hw2=>?_)))))))
 obtain⟨A9,n9,c9,rfl,j9,o9⟩:=r8
 refine mv 1 rfl (ne_ (cw_seq ?_))
 by_cases hs:s=true
 · 
  subst hs
  by_cases hm0:m=0
  · 
   have hn0:n9=0:=by rw [j9,hm0,wd_zero];rfl
   refine cw_region (mv 3 rfl (pu (v:= .int .i64 ((n9:Nat):Int)) rfl (by kernel_rfl) (wl_cmp rfl rfl rfl false (gt_f (by omega)) (by decide) (pu (v:= .bool false) rfl (by kernel_rfl) (mv 1 rfl (pu (v:= .agg #[F0,.slice A9 n9 c9]) rfl (by kernel_rfl) ?_))))))
   have hb11:=(hb4.ext e7)
   refine so aggInt hb11 [F0,.slice A9 n9 c9] hw2 ge5 rfl rfl rfl rfl fun v10 hb12 u13 hw3=>(ne_ (cw_ret (eo_ret [.agg #[F0,.slice A9 n9 c9]] rfl ⟨⟨_,rfl,load_agg aggInt hb12 [F0,.slice A9 n9 c9] rfl (bq rfl) rfl⟩,trivial⟩ ?_)))
   exact⟨_,rfl,⟨_,_,_,_,rfl,((Zr_of (m:=m) (s:=true) (z:=sg true m) (by rw [sg_lt,hm0];rfl) j9 o9 rfl).updT hb11 u13)⟩,hw3⟩
  · 
   have hn0:n9≠0:=fun e=>hm0 (len_wd_zero.1 (by rw [←j9,e]))
   refine cw_region (mv 3 rfl (pu (v:= .int .i64 ((n9:Nat):Int)) rfl (by kernel_rfl) (wl_cmp rfl rfl rfl true (gt_t (by omega)) (by decide) (pu (v:= .bool true) rfl (by kernel_rfl) (mv 1 rfl (pu (v:= .agg #[.bool true,.slice A9 n9 c9]) rfl (by kernel_rfl) ?_))))))
   have hb16:=(hb4.ext e7)
   refine so aggInt hb16 [.bool true,.slice A9 n9 c9] hw2 ge5 rfl rfl rfl rfl fun v15 hb17 u18 hw3=>(ne_ (cw_ret (eo_ret [.agg #[.bool true,.slice A9 n9 c9]] rfl ⟨⟨_,rfl,load_agg aggInt hb17 [.bool true,.slice A9 n9 c9] rfl (bq rfl) rfl⟩,trivial⟩ ?_)))
   exact⟨_,rfl,⟨_,_,_,_,rfl,((Zr_of (m:=m) (s:=true) (z:=sg true m) (by rw [sg_lt,decide_eq_true (Nat.pos_of_ne_zero hm0)];rfl) j9 o9 rfl).updT hb16 u18)⟩,hw3⟩
 · 
  replace hs:s=false:=by simpa using hs
  subst hs
  refine cw_region (mv 5 rfl (pu (v:= .bool false) rfl (by kernel_rfl) (mv 1 rfl (pu (v:= .agg #[F0,.slice A9 n9 c9]) rfl (by kernel_rfl) ?_))))
  have hb21:=(hb4.ext e7)
  refine so aggInt hb21 [F0,.slice A9 n9 c9] hw2 ge5 rfl rfl rfl rfl fun v20 hb22 u23 hw3=>(ne_ (cw_ret (eo_ret [.agg #[F0,.slice A9 n9 c9]] rfl ⟨⟨_,rfl,load_agg aggInt hb22 [F0,.slice A9 n9 c9] rfl (bq rfl) rfl⟩,trivial⟩ ?_)))
  exact⟨_,rfl,⟨_,_,_,_,rfl,((Zr_of (m:=m) (s:=false) (z:=sg false m) (by rw [sg_lt];rfl) j9 o9 rfl).updT hb21 u23)⟩,hw3⟩
set_option maxHeartbeats 4000000 in
theorem g_ref5_Least {w:World}{sa:Bool}{Aa:Option Addr}{na ca:Nat}{x:Int}{b:Nat}(hb:b≤w.heap.size) (hx:Zi w sa Aa na ca x) (la:na≤17179869183):
    Calls Tryz.prog 32 #[.agg #[.bool sa,.slice Aa na ca]] w (Gv w (ZR b (x))):=by
 refine Calls.mono (R:=Gv w (ZR w.heap.size (x))) ?_ (Gv.imp (ZR.imp hb))
 have Lx:ln x≤17179869183:=Nat.le_trans hx.ln la
 refine sx_enter Tryz.func32 rfl (n:=8) rfl (bq rfl) (args:= [.agg #[.bool sa,.slice Aa na ca]]) (cw_keep [(0,.agg #[.bool sa,.slice Aa na ca])] ⟨rfl,trivial⟩ (sr (bx [.bool sa,.slice Aa na ca] (Ext.refl w) rfl rfl rfl fun g1 v2 hb4 ge5 e3 hw1=>(alq [F0,S0] hw1 hb4.lt (fun _=>by kernel_rfl) rfl fun g6 v7 hb9 ge10 q11 e8 hw2=>(ne_ (sr (pf g1 0 rfl (by kernel_rfl) (wl_load rfl rfl (load_cell cellBool (hb4.ext e8) rfl) (by decide) (pf g1 1 rfl (by kernel_rfl) (wl_load rfl rfl (load_cell cellWords (hb4.ext e8) rfl) (by decide) ?_))))))))))
 have L12:ln (sg sa (Int.natAbs x))≤17179869183:=by rw [ln_sg];exact Lx
 refine cl (vs:= [.bool sa,.slice Aa na ca]) hw2 (g_ref5_made hw2.size (hx.ext hw2).wi (lx_ la rfl)) rfl (by kernel_rfl) fun xr15 v13 r15 e14 hw3=>?_
 obtain⟨s16,A16,n16,c16,rfl,z16⟩:=r15
 have hb18:=(hb9.ext e14)
 refine so aggInt hb18 [.bool s16,.slice A16 n16 c16] hw3 ge10 rfl rfl rfl rfl fun v17 hb19 u20 hw4=>(ne_ (cw_ret (eo_ret [.agg #[.bool s16,.slice A16 n16 c16]] rfl ⟨⟨_,rfl,load_agg aggInt hb19 [.bool s16,.slice A16 n16 c16] rfl (bq rfl) rfl⟩,trivial⟩ ?_)))
 exact⟨_,rfl,⟨_,_,_,_,rfl,((z16.updT hb18 u20)).cast (hx.sg)⟩,hw4⟩
set_option maxHeartbeats 4000000 in
theorem g_ref5_Abs {w:World}{sa:Bool}{Aa:Option Addr}{na ca:Nat}{x:Int}{b:Nat}(hb:b≤w.heap.size) (hx:Zi w sa Aa na ca x) (la:na≤17179869183):
    Calls Tryz.prog 39 #[.agg #[.bool sa,.slice Aa na ca]] w (Gv w (ZR b ((Int.natAbs x:Int)))):=by
 refine Calls.mono (R:=Gv w (ZR w.heap.size ((Int.natAbs x:Int)))) ?_ (Gv.imp (ZR.imp hb))
 have Lx:ln x≤17179869183:=Nat.le_trans hx.ln la
 refine sx_enter Tryz.func39 rfl (n:=6) rfl (bq rfl) (args:= [.agg #[.bool sa,.slice Aa na ca]]) (cw_keep [(0,.agg #[.bool sa,.slice Aa na ca])] ⟨rfl,trivial⟩ (sr (bx [.bool sa,.slice Aa na ca] (Ext.refl w) rfl rfl rfl fun g1 v2 hb4 ge5 e3 hw1=>(alq [F0,S0] hw1 hb4.lt (fun _=>by kernel_rfl) rfl fun g6 v7 hb9 ge10 q11 e8 hw2=>(ne_ (sr (pf g1 1 rfl (by kernel_rfl) (wl_load rfl rfl (load_cell cellWords (hb4.ext e8) rfl) (by decide) ?_))))))))
 have L12:ln (sg false (Int.natAbs x))≤17179869183:=by rw [ln_sg];exact Lx
 refine cl (vs:= [F0,.slice Aa na ca]) hw2 (g_ref5_made hw2.size (hx.ext hw2).wi (lx_ la rfl)) rfl (by kernel_rfl) fun xr15 v13 r15 e14 hw3=>?_
 obtain⟨s16,A16,n16,c16,rfl,z16⟩:=r15
 have hb18:=(hb9.ext e14)
 refine so aggInt hb18 [.bool s16,.slice A16 n16 c16] hw3 ge10 rfl rfl rfl rfl fun v17 hb19 u20 hw4=>(ne_ (cw_ret (eo_ret [.agg #[.bool s16,.slice A16 n16 c16]] rfl ⟨⟨_,rfl,load_agg aggInt hb19 [.bool s16,.slice A16 n16 c16] rfl (bq rfl) rfl⟩,trivial⟩ ?_)))
 exact⟨_,rfl,⟨_,_,_,_,rfl,((z16.updT hb18 u20)).cast (rfl)⟩,hw4⟩
set_option maxHeartbeats 4000000 in
theorem g_ref5_Sign {w:World}{sa:Bool}{Aa:Option Addr}{na ca:Nat}{x:Int}(hx:Zi w sa Aa na ca x) (la:na≤17179869183):
    Calls Tryz.prog 35 #[.agg #[.bool sa,.slice Aa na ca]] w (Gv w (Is (.int .i64 (scmp x 0)))):=by
 have Lx:ln x≤17179869183:=Nat.le_trans hx.ln la
 refine sx_enter Tryz.func35 rfl (n:=12) rfl (bq rfl) (args:= [.agg #[.bool sa,.slice Aa na ca]]) (cw_keep [(0,.agg #[.bool sa,.slice Aa na ca])] ⟨rfl,trivial⟩ (sr (bx [.bool sa,.slice Aa na ca] (Ext.refl w) rfl rfl rfl fun g1 v2 hb4 ge5 e3 hw1=>(mv 1 rfl (ne_ (sr (lo aggInt hb4 [.bool sa,.slice Aa na ca] rfl rfl rfl (cl (vs:= [.agg #[.bool sa,.slice Aa na ca]]) hw1 (g_ref5_Least hw1.size (hx.ext hw1) (lx_ la rfl)) rfl (by kernel_rfl) fun xr8 v6 r8 e7 hw2=>?_))))))))
 obtain⟨s9,A9,n9,c9,rfl,z9⟩:=r8
 refine alq [F0,S0] hw2 (hb4.ext e7).lt (fun _=>by kernel_rfl) rfl fun g10 v11 hb13 ge14 q15 e12 hw3=>(so aggInt hb13 [.bool s9,.slice A9 n9 c9] hw3 ge14 rfl rfl rfl rfl fun v16 hb18 u19 hw4=>(ne_ (cw_seq (cw_seq ?_))))
 by_cases hx0:x<0
 · 
  obtain rfl:s9=true:=by rw [(((z9.ext e12).updT hb13 u19)).sgn];exact decide_eq_true hx0
  refine cw_region (pf g10 0 rfl (by kernel_rfl) (wl_load rfl rfl (load_cell cellBool hb18 rfl) (by decide) (ne_ (cw_true rfl (sr (mv 1 rfl (ne_ (cw_ret (eo_thenR (eo_ret [.int .i64 (-1)] rfl ⟨rfl,trivial⟩ ?_))))))))))
  exact⟨_,rfl,(show (.int .i64 (-1):Value)=Value.int .i64 (scmp x 0) by rw [scmp_m1 hx0]),hw4⟩
 · 
  obtain rfl:s9=false:=by rw [(((z9.ext e12).updT hb13 u19)).sgn];exact decide_eq_false hx0
  have hnl:n9=ln x:=(((z9.ext e12).updT hb13 u19)).len
  by_cases hxz:x=0
  · 
   have hn0:n9=0:=by rw [hnl,hxz];rfl
   refine cw_region (pf g10 0 rfl (by kernel_rfl) (wl_load rfl rfl (load_cell cellBool hb18 rfl) (by decide) (ne_ (cw_false rfl (cw_skip (eo_then (cw_seq (sr (pf g10 1 rfl (by kernel_rfl) (wl_load rfl rfl (load_cell cellWords hb18 rfl) (by decide) (pu (v:= .int .i64 ((n9:Nat):Int)) rfl (by kernel_rfl) (wl_cmp rfl rfl rfl false (gt_f (by omega)) (by decide) (wl_nil ?_)))))))))))))
   refine eo_then (cw_false rfl (cw_skip (eo_then (sr (mv 1 rfl (ne_ (cw_ret (eo_ret [I0] rfl ⟨rfl,trivial⟩ ?_))))))))
   exact⟨_,rfl,(show (.int .i64 0:Value)=Value.int .i64 (scmp x 0) by rw [scmp_z hxz]),hw4⟩
  · 
   have hn0:n9≠0:=fun e=>hxz (ln_eq_zero (by rw [←hnl,e]))
   refine cw_region (pf g10 0 rfl (by kernel_rfl) (wl_load rfl rfl (load_cell cellBool hb18 rfl) (by decide) (ne_ (cw_false rfl (cw_skip (eo_then (cw_seq (sr (pf g10 1 rfl (by kernel_rfl) (wl_load rfl rfl (load_cell cellWords hb18 rfl) (by decide) (pu (v:= .int .i64 ((n9:Nat):Int)) rfl (by kernel_rfl) (wl_cmp rfl rfl rfl true (gt_t (by omega)) (by decide) (wl_nil ?_)))))))))))))
   refine eo_then (cw_true rfl (sr (mv 1 rfl (ne_ (cw_ret (eo_thenR (eo_ret [.int .i64 1] rfl ⟨rfl,trivial⟩ ?_)))))))
   exact⟨_,rfl,(show (.int .i64 1:Value)=Value.int .i64 (scmp x 0) by rw [scmp_p1 (by omega)]),hw4⟩
set_option maxHeartbeats 4000000 in
theorem g_ref5_CmpAbs {w:World}{sa:Bool}{Aa:Option Addr}{na ca:Nat}{x:Int}{sb:Bool}{Ab:Option Addr}{nb cb:Nat}{y:Int}(hx:Zi w sa Aa na ca x) (la:na≤17179869183) (hy:Zi w sb Ab nb cb y) (lb:nb≤17179869183):
    Calls Tryz.prog 37 #[.agg #[.bool sa,.slice Aa na ca],.agg #[.bool sb,.slice Ab nb cb]] w (Gv w (Is (.int .i64 (cmp3 (Int.natAbs x) (Int.natAbs y))))):=by
 have Lx:ln x≤17179869183:=Nat.le_trans hx.ln la
 have Ly:ln y≤17179869183:=Nat.le_trans hy.ln lb
 refine sx_enter Tryz.func37 rfl (n:=10) rfl (bq rfl) (args:= [.agg #[.bool sa,.slice Aa na ca],.agg #[.bool sb,.slice Ab nb cb]]) (cw_keep [(0,.agg #[.bool sa,.slice Aa na ca]),(1,.agg #[.bool sb,.slice Ab nb cb])] ⟨rfl,rfl,trivial⟩ (sr (bx [.bool sa,.slice Aa na ca] (Ext.refl w) rfl rfl rfl fun g1 v2 hb4 ge5 e3 hw1=>(bxq [.bool sb,.slice Ab nb cb] hw1 hb4.lt rfl rfl rfl fun g6 v7 hb9 ge10 q11 e8 hw2=>(mv 1 rfl (ne_ (sr (pf g1 1 rfl (by kernel_rfl) (wl_load rfl rfl (load_cell cellWords (hb4.ext e8) rfl) (by decide) (pf g6 1 rfl (by kernel_rfl) (wl_load rfl rfl (load_cell cellWords hb9 rfl) (by decide) (cl (vs:= [.slice Aa na ca,.slice Ab nb cb]) hw2 (g_ref1_Cmp (hx.ext hw2).wi (lx_ la rfl) (hy.ext hw2).wi (lx_ lb rfl)) rfl (by kernel_rfl) fun xr14 v12 r14 e13 hw3=>?_))))))))))))
 obtain rfl:=r14
 refine mv 1 rfl (ne_ (cw_ret (eo_ret [.int .i64 (cmp3 (Int.natAbs x) (Int.natAbs y))] rfl ⟨rfl,trivial⟩ ?_)))
 exact⟨_,rfl,rfl,hw3⟩
set_option maxHeartbeats 4000000 in
theorem g_ref5_Cmp {w:World}{sa:Bool}{Aa:Option Addr}{na ca:Nat}{x:Int}{sb:Bool}{Ab:Option Addr}{nb cb:Nat}{y:Int}(hx:Zi w sa Aa na ca x) (la:na≤17179869183) (hy:Zi w sb Ab nb cb y) (lb:nb≤17179869183):
    Calls Tryz.prog 36 #[.agg #[.bool sa,.slice Aa na ca],.agg #[.bool sb,.slice Ab nb cb]] w (Gv w (Is (.int .i64 (scmp x y)))):=by
 have Lx:ln x≤17179869183:=Nat.le_trans hx.ln la
 have Ly:ln y≤17179869183:=Nat.le_trans hy.ln lb
 refine sx_enter Tryz.func36 rfl (n:=22) rfl (bq rfl) (args:= [.agg #[.bool sa,.slice Aa na ca],.agg #[.bool sb,.slice Ab nb cb]]) (cw_keep [(0,.agg #[.bool sa,.slice Aa na ca]),(1,.agg #[.bool sb,.slice Ab nb cb])] ⟨rfl,rfl,trivial⟩ (sr (bx [.bool sa,.slice Aa na ca] (Ext.refl w) rfl rfl rfl fun g1 v2 hb4 ge5 e3 hw1=>(bxq [.bool sb,.slice Ab nb cb] hw1 hb4.lt rfl rfl rfl fun g6 v7 hb9 ge10 q11 e8 hw2=>(mv 1 rfl (ne_ (sr (lo aggInt (hb4.ext e8) [.bool sa,.slice Aa na ca] rfl rfl rfl (cl (vs:= [.agg #[.bool sa,.slice Aa na ca]]) hw2 (g_ref5_Sign (hx.ext hw2) (lx_ la rfl)) rfl (by kernel_rfl) fun xr14 v12 r14 e13 hw3=>?_)))))))))
 obtain rfl:=r14
 refine mv 1 rfl (ne_ (sr (lo aggInt (hb9.ext e13) [.bool sb,.slice Ab nb cb] rfl rfl rfl (cl (vs:= [.agg #[.bool sb,.slice Ab nb cb]]) hw3 (g_ref5_Sign (hy.ext hw3) (lx_ lb rfl)) rfl (by kernel_rfl) fun xr17 v15 r17 e16 hw4=>?_))))
 obtain rfl:=r17
 refine mv 1 rfl (ne_ (cw_seq (cw_seq ?_)))
 by_cases hs:scmp x 0=scmp y 0
 · 
  refine cw_region (mv 2 rfl (wl_cmp rfl rfl rfl false (ne_f hs) (by decide) (ne_ (cw_false rfl (cw_skip (eo_then (sr (mv 1 rfl (lo aggInt (hb4.ext (e8.trans (e13.trans e16))) [.bool sa,.slice Aa na ca] rfl rfl rfl (lo aggInt (hb9.ext (e13.trans e16)) [.bool sb,.slice Ab nb cb] rfl rfl rfl (cl (vs:= [.agg #[.bool sa,.slice Aa na ca],.agg #[.bool sb,.slice Ab nb cb]]) hw4 (g_ref5_CmpAbs (hx.ext hw4) (lx_ la rfl) (hy.ext hw4) (lx_ lb rfl)) rfl (by kernel_rfl) fun xr20 v18 r20 e19 hw5=>?_)))))))))))
  obtain rfl:=r20
  refine wl_ar rfl rfl rfl (scmp x y) (ar_i64m (scmp_same hs) (scmp_i64 _ _).1 (scmp_i64 _ _).2) (by decide) (mv 1 rfl (ne_ (cw_ret (eo_ret [.int .i64 (scmp x y)] rfl ⟨rfl,trivial⟩ ?_))))
  exact⟨_,rfl,rfl,hw5⟩
 · 
  by_cases hl:scmp x 0<scmp y 0
  · 
   refine cw_region (mv 2 rfl (wl_cmp rfl rfl rfl true (ne_t hs) (by decide) (ne_ (cw_true rfl (cw_seq (sr (mv 2 rfl (wl_cmp rfl rfl rfl true (lt_t hl) (by decide) (ne_ (cw_true rfl (sr (mv 1 rfl (wl_nil ?_)))))))))))))
   refine eo_then (cw_ret (eo_thenR (eo_thenR (eo_ret [.int .i64 (-1)] rfl ⟨rfl,trivial⟩ ?_))))
   exact⟨_,rfl,(show (.int .i64 (-1):Value)=Value.int .i64 (scmp x y) by rw [scmp_diff_lt hl]),hw4⟩
  · 
   refine cw_region (mv 2 rfl (wl_cmp rfl rfl rfl true (ne_t hs) (by decide) (ne_ (cw_true rfl (cw_seq (sr (mv 2 rfl (wl_cmp rfl rfl rfl false (lt_f (by omega)) (by decide) (ne_ (cw_false rfl (cw_skip (eo_then (cw_seq ?_)))))))))))))
   refine cw_region (mv 1 rfl (ne_ (cw_ret (eo_thenR (eo_ret [.int .i64 1] rfl ⟨rfl,trivial⟩ ?_)))))
   exact⟨_,rfl,(show (.int .i64 1:Value)=Value.int .i64 (scmp x y) by rw [scmp_diff_gt (by omega)]),hw4⟩
set_option maxHeartbeats 4000000 in
theorem g_ref5_Add {w:World}{sa:Bool}{Aa:Option Addr}{na ca:Nat}{x:Int}{sb:Bool}{Ab:Option Addr}{nb cb:Nat}{y:Int}{b:Nat}(hb:b≤w.heap.size) (hx:Zi w sa Aa na ca x) (la:na≤17179869183) (hy:Zi w sb Ab nb cb y) (lb:nb≤17179869183):
    Calls Tryz.prog 40 #[.agg #[.bool sa,.slice Aa na ca],.agg #[.bool sb,.slice Ab nb cb]] w (Gv w (ZR b (x+y))):=by
 refine Calls.mono (R:=Gv w (ZR w.heap.size (x+y))) ?_ (Gv.imp (ZR.imp hb))
 have Lx:ln x≤17179869183:=Nat.le_trans hx.ln la
 have Ly:ln y≤17179869183:=Nat.le_trans hy.ln lb
 refine sx_enter Tryz.func40 rfl (n:=54) rfl (bq rfl) (args:= [.agg #[.bool sa,.slice Aa na ca],.agg #[.bool sb,.slice Ab nb cb]]) (cw_keep [(0,.agg #[.bool sa,.slice Aa na ca]),(1,.agg #[.bool sb,.slice Ab nb cb])] ⟨rfl,rfl,trivial⟩ (sr (bx [.bool sa,.slice Aa na ca] (Ext.refl w) rfl rfl rfl fun g1 v2 hb4 ge5 e3 hw1=>(bxq [.bool sb,.slice Ab nb cb] hw1 hb4.lt rfl rfl rfl fun g6 v7 hb9 ge10 q11 e8 hw2=>(alq [F0,S0] hw2 hb9.lt (fun _=>by kernel_rfl) rfl fun g12 v13 hb15 ge16 q17 e14 hw3=>(ne_ (cw_seq (cw_seq ?_))))))))
 by_cases hsa:sa=true
 · 
  subst hsa
  by_cases hsb:sb=true
  · 
   subst hsb
   refine cw_region (pf g1 0 rfl (by kernel_rfl) (wl_load rfl rfl (load_cell cellBool (hb4.ext (e8.trans e14)) rfl) (by decide) (pf g6 0 rfl (by kernel_rfl) (wl_load rfl rfl (load_cell cellBool (hb9.ext e14) rfl) (by decide) (pu (v:= .bool true) rfl (by kernel_rfl) (ne_ (cw_true rfl (sr (pf g1 1 rfl (by kernel_rfl) (wl_load rfl rfl (load_cell cellWords (hb4.ext (e8.trans e14)) rfl) (by decide) (pf g6 1 rfl (by kernel_rfl) (wl_load rfl rfl (load_cell cellWords (hb9.ext e14) rfl) (by decide) ?_))))))))))))
   have L18:(wd ((Int.natAbs x)+(Int.natAbs y))).length≤17179869184:=Nat.le_trans (len_wd_add _ _) (Nat.succ_le_succ (Nat.max_le.2 ⟨Nat.le_trans Lx (by decide),Nat.le_trans Ly (by decide)⟩))
   refine cl (vs:= [.slice Aa na ca,.slice Ab nb cb]) hw3 (g_ref1_Add hw3.size (hx.ext hw3).wi (lx_ la rfl) (hy.ext hw3).wi (lx_ lb rfl)) rfl (by kernel_rfl) fun xr21 v19 r21 e20 hw4=>?_
   obtain⟨A22,n22,c22,rfl,j22,o22⟩:=r21
   refine mv 1 rfl (ne_ (sr (pf g1 0 rfl (by kernel_rfl) (wl_load rfl rfl (load_cell cellBool (hb4.ext (e8.trans (e14.trans e20))) rfl) (by decide) (mv 1 rfl ?_)))))
   have L23:ln (sg true ((Int.natAbs x)+(Int.natAbs y)))≤17179869184:=by rw [ln_sg];exact L18
   refine cl (vs:= [.bool true,.slice A22 n22 c22]) hw4 (g_ref5_made hw4.size o22.wi (by rw [j22];exact Nat.le_trans L18 (by decide))) rfl (by kernel_rfl) fun xr26 v24 r26 e25 hw5=>?_
   obtain⟨s27,A27,n27,c27,rfl,z27⟩:=r26
   have hb29:=(hb15.ext (e20.trans e25))
   refine so aggInt hb29 [.bool s27,.slice A27 n27 c27] hw5 ge16 rfl rfl rfl rfl fun v28 hb30 u31 hw6=>(ne_ (cw_ret (eo_thenR (eo_ret [.agg #[.bool s27,.slice A27 n27 c27]] rfl ⟨⟨_,rfl,load_agg aggInt hb30 [.bool s27,.slice A27 n27 c27] rfl (bq rfl) rfl⟩,trivial⟩ ?_))))
   exact⟨_,rfl,⟨_,_,_,_,rfl,((z27.updT hb29 u31)).cast (by rw [sg_add,hx.sg,hy.sg])⟩,hw6⟩
  · 
   replace hsb:sb=false:=by simpa using hsb
   subst hsb
   refine cw_region (pf g1 0 rfl (by kernel_rfl) (wl_load rfl rfl (load_cell cellBool (hb4.ext (e8.trans e14)) rfl) (by decide) (pf g6 0 rfl (by kernel_rfl) (wl_load rfl rfl (load_cell cellBool (hb9.ext e14) rfl) (by decide) (pu (v:= .bool false) rfl (by kernel_rfl) (ne_ (cw_false rfl (cw_skip (eo_then (cw_seq (cw_seq ?_)))))))))))
   by_cases hxy:Int.natAbs y≤Int.natAbs x
   · 
    refine cw_region (pf g1 1 rfl (by kernel_rfl) (wl_load rfl rfl (load_cell cellWords (hb4.ext (e8.trans e14)) rfl) (by decide) (pf g6 1 rfl (by kernel_rfl) (wl_load rfl rfl (load_cell cellWords (hb9.ext e14) rfl) (by decide) (cl (vs:= [.slice Aa na ca,.slice Ab nb cb]) hw3 (g_ref1_Cmp (hx.ext hw3).wi (lx_ la rfl) (hy.ext hw3).wi (lx_ lb rfl)) rfl (by kernel_rfl) fun xr35 v33 r35 e34 hw4=>?_)))))
    obtain rfl:=r35
    refine wl_cmp rfl rfl rfl true (cmp3_ge_t hxy) (by decide) (ne_ (cw_true rfl (sr (pf g1 1 rfl (by kernel_rfl) (wl_load rfl rfl (load_cell cellWords (hb4.ext (e8.trans (e14.trans e34))) rfl) (by decide) (pf g6 1 rfl (by kernel_rfl) (wl_load rfl rfl (load_cell cellWords (hb9.ext (e14.trans e34)) rfl) (by decide) ?_)))))))
    have L36:(wd ((Int.natAbs x)-(Int.natAbs y))).length≤17179869183:=Nat.le_trans (len_wd_mono (Nat.sub_le _ _)) Lx
    refine cl (vs:= [.slice Aa na ca,.slice Ab nb cb]) hw4 (g_ref1_Sub hw4.size (hx.ext hw4).wi (lx_ la rfl) (hy.ext hw4).wi (lx_ lb rfl) hxy) rfl (by kernel_rfl) fun xr39 v37 r39 e38 hw5=>?_
    obtain⟨_,_,rfl,⟨A41,n41,c41,rfl,j41,o41⟩,rfl⟩:=r39
    refine mv 1 rfl (pu (v:= .slice A41 n41 c41) rfl (by kernel_rfl) (pu (v:= .int .i64 0) rfl (by kernel_rfl) (mv 2 rfl (ne_ (sr (pf g1 0 rfl (by kernel_rfl) (wl_load rfl rfl (load_cell cellBool (hb4.ext (e8.trans (e14.trans (e34.trans e38)))) rfl) (by decide) (mv 1 rfl ?_))))))))
    have L42:ln (sg true ((Int.natAbs x)-(Int.natAbs y)))≤17179869183:=by rw [ln_sg];exact L36
    refine cl (vs:= [.bool true,.slice A41 n41 c41]) hw5 (g_ref5_made hw5.size o41.wi (by rw [j41];exact Nat.le_trans L36 (by decide))) rfl (by kernel_rfl) fun xr45 v43 r45 e44 hw6=>?_
    obtain⟨s46,A46,n46,c46,rfl,z46⟩:=r45
    have hb48:=(hb15.ext (e34.trans (e38.trans e44)))
    refine so aggInt hb48 [.bool s46,.slice A46 n46 c46] hw6 ge16 rfl rfl rfl rfl fun v47 hb49 u50 hw7=>(ne_ (cw_ret (eo_thenR (eo_ret [.agg #[.bool s46,.slice A46 n46 c46]] rfl ⟨⟨_,rfl,load_agg aggInt hb49 [.bool s46,.slice A46 n46 c46] rfl (bq rfl) rfl⟩,trivial⟩ ?_))))
    exact⟨_,rfl,⟨_,_,_,_,rfl,((z46.updT hb48 u50)).cast (by rw [sg_sub hxy];show sg true _+sg false _=_;rw [hx.sg,hy.sg])⟩,hw7⟩
   · 
    refine cw_region (pf g1 1 rfl (by kernel_rfl) (wl_load rfl rfl (load_cell cellWords (hb4.ext (e8.trans e14)) rfl) (by decide) (pf g6 1 rfl (by kernel_rfl) (wl_load rfl rfl (load_cell cellWords (hb9.ext e14) rfl) (by decide) (cl (vs:= [.slice Aa na ca,.slice Ab nb cb]) hw3 (g_ref1_Cmp (hx.ext hw3).wi (lx_ la rfl) (hy.ext hw3).wi (lx_ lb rfl)) rfl (by kernel_rfl) fun xr54 v52 r54 e53 hw4=>?_)))))
    obtain rfl:=r54
    refine wl_cmp rfl rfl rfl false (cmp3_ge_f hxy) (by decide) (ne_ (cw_false rfl (cw_skip (eo_then (sr (pf g6 1 rfl (by kernel_rfl) (wl_load rfl rfl (load_cell cellWords (hb9.ext (e14.trans e53)) rfl) (by decide) (pf g1 1 rfl (by kernel_rfl) (wl_load rfl rfl (load_cell cellWords (hb4.ext (e8.trans (e14.trans e53))) rfl) (by decide) ?_)))))))))
    have L55:(wd ((Int.natAbs y)-(Int.natAbs x))).length≤17179869183:=Nat.le_trans (len_wd_mono (Nat.sub_le _ _)) Ly
    refine cl (vs:= [.slice Ab nb cb,.slice Aa na ca]) hw4 (g_ref1_Sub hw4.size (hy.ext hw4).wi (lx_ lb rfl) (hx.ext hw4).wi (lx_ la rfl) (by omega)) rfl (by kernel_rfl) fun xr58 v56 r58 e57 hw5=>?_
    obtain⟨_,_,rfl,⟨A60,n60,c60,rfl,j60,o60⟩,rfl⟩:=r58
    refine mv 1 rfl (pu (v:= .slice A60 n60 c60) rfl (by kernel_rfl) (pu (v:= .int .i64 0) rfl (by kernel_rfl) (mv 2 rfl (ne_ (sr (pf g6 0 rfl (by kernel_rfl) (wl_load rfl rfl (load_cell cellBool (hb9.ext (e14.trans (e53.trans e57))) rfl) (by decide) (mv 1 rfl ?_))))))))
    have L61:ln (sg false ((Int.natAbs y)-(Int.natAbs x)))≤17179869183:=by rw [ln_sg];exact L55
    refine cl (vs:= [F0,.slice A60 n60 c60]) hw5 (g_ref5_made hw5.size o60.wi (by rw [j60];exact Nat.le_trans L55 (by decide))) rfl (by kernel_rfl) fun xr64 v62 r64 e63 hw6=>?_
    obtain⟨s65,A65,n65,c65,rfl,z65⟩:=r64
    have hb67:=(hb15.ext (e53.trans (e57.trans e63)))
    refine so aggInt hb67 [.bool s65,.slice A65 n65 c65] hw6 ge16 rfl rfl rfl rfl fun v66 hb68 u69 hw7=>(ne_ (cw_ret (eo_ret [.agg #[.bool s65,.slice A65 n65 c65]] rfl ⟨⟨_,rfl,load_agg aggInt hb68 [.bool s65,.slice A65 n65 c65] rfl (bq rfl) rfl⟩,trivial⟩ ?_)))
    exact⟨_,rfl,⟨_,_,_,_,rfl,((z65.updT hb67 u69)).cast (by rw [sg_sub (by omega)];show sg false _+sg true _=_;rw [hx.sg,hy.sg,Int.add_comm])⟩,hw7⟩
 · 
  replace hsa:sa=false:=by simpa using hsa
  subst hsa
  by_cases hsb:sb=true
  · 
   subst hsb
   refine cw_region (pf g1 0 rfl (by kernel_rfl) (wl_load rfl rfl (load_cell cellBool (hb4.ext (e8.trans e14)) rfl) (by decide) (pf g6 0 rfl (by kernel_rfl) (wl_load rfl rfl (load_cell cellBool (hb9.ext e14) rfl) (by decide) (pu (v:= .bool false) rfl (by kernel_rfl) (ne_ (cw_false rfl (cw_skip (eo_then (cw_seq (cw_seq ?_)))))))))))
   by_cases hxy:Int.natAbs y≤Int.natAbs x
   · 
    refine cw_region (pf g1 1 rfl (by kernel_rfl) (wl_load rfl rfl (load_cell cellWords (hb4.ext (e8.trans e14)) rfl) (by decide) (pf g6 1 rfl (by kernel_rfl) (wl_load rfl rfl (load_cell cellWords (hb9.ext e14) rfl) (by decide) (cl (vs:= [.slice Aa na ca,.slice Ab nb cb]) hw3 (g_ref1_Cmp (hx.ext hw3).wi (lx_ la rfl) (hy.ext hw3).wi (lx_ lb rfl)) rfl (by kernel_rfl) fun xr73 v71 r73 e72 hw4=>?_)))))
    obtain rfl:=r73
    refine wl_cmp rfl rfl rfl true (cmp3_ge_t hxy) (by decide) (ne_ (cw_true rfl (sr (pf g1 1 rfl (by kernel_rfl) (wl_load rfl rfl (load_cell cellWords (hb4.ext (e8.trans (e14.trans e72))) rfl) (by decide) (pf g6 1 rfl (by kernel_rfl) (wl_load rfl rfl (load_cell cellWords (hb9.ext (e14.trans e72)) rfl) (by decide) ?_)))))))
    have L74:(wd ((Int.natAbs x)-(Int.natAbs y))).length≤17179869183:=Nat.le_trans (len_wd_mono (Nat.sub_le _ _)) Lx
    refine cl (vs:= [.slice Aa na ca,.slice Ab nb cb]) hw4 (g_ref1_Sub hw4.size (hx.ext hw4).wi (lx_ la rfl) (hy.ext hw4).wi (lx_ lb rfl) hxy) rfl (by kernel_rfl) fun xr77 v75 r77 e76 hw5=>?_
    obtain⟨_,_,rfl,⟨A79,n79,c79,rfl,j79,o79⟩,rfl⟩:=r77
    refine mv 1 rfl (pu (v:= .slice A79 n79 c79) rfl (by kernel_rfl) (pu (v:= .int .i64 0) rfl (by kernel_rfl) (mv 2 rfl (ne_ (sr (pf g1 0 rfl (by kernel_rfl) (wl_load rfl rfl (load_cell cellBool (hb4.ext (e8.trans (e14.trans (e72.trans e76)))) rfl) (by decide) (mv 1 rfl ?_))))))))
    have L80:ln (sg false ((Int.natAbs x)-(Int.natAbs y)))≤17179869183:=by rw [ln_sg];exact L74
    refine cl (vs:= [F0,.slice A79 n79 c79]) hw5 (g_ref5_made hw5.size o79.wi (by rw [j79];exact Nat.le_trans L74 (by decide))) rfl (by kernel_rfl) fun xr83 v81 r83 e82 hw6=>?_
    obtain⟨s84,A84,n84,c84,rfl,z84⟩:=r83
    have hb86:=(hb15.ext (e72.trans (e76.trans e82)))
    refine so aggInt hb86 [.bool s84,.slice A84 n84 c84] hw6 ge16 rfl rfl rfl rfl fun v85 hb87 u88 hw7=>(ne_ (cw_ret (eo_thenR (eo_ret [.agg #[.bool s84,.slice A84 n84 c84]] rfl ⟨⟨_,rfl,load_agg aggInt hb87 [.bool s84,.slice A84 n84 c84] rfl (bq rfl) rfl⟩,trivial⟩ ?_))))
    exact⟨_,rfl,⟨_,_,_,_,rfl,((z84.updT hb86 u88)).cast (by rw [sg_sub hxy];show sg false _+sg true _=_;rw [hx.sg,hy.sg])⟩,hw7⟩
   · 
    refine cw_region (pf g1 1 rfl (by kernel_rfl) (wl_load rfl rfl (load_cell cellWords (hb4.ext (e8.trans e14)) rfl) (by decide) (pf g6 1 rfl (by kernel_rfl) (wl_load rfl rfl (load_cell cellWords (hb9.ext e14) rfl) (by decide) (cl (vs:= [.slice Aa na ca,.slice Ab nb cb]) hw3 (g_ref1_Cmp (hx.ext hw3).wi (lx_ la rfl) (hy.ext hw3).wi (lx_ lb rfl)) rfl (by kernel_rfl) fun xr92 v90 r92 e91 hw4=>?_)))))
    obtain rfl:=r92
    refine wl_cmp rfl rfl rfl false (cmp3_ge_f hxy) (by decide) (ne_ (cw_false rfl (cw_skip (eo_then (sr (pf g6 1 rfl (by kernel_rfl) (wl_load rfl rfl (load_cell cellWords (hb9.ext (e14.trans e91)) rfl) (by decide) (pf g1 1 rfl (by kernel_rfl) (wl_load rfl rfl (load_cell cellWords (hb4.ext (e8.trans (e14.trans e91))) rfl) (by decide) ?_)))))))))
    have L93:(wd ((Int.natAbs y)-(Int.natAbs x))).length≤17179869183:=Nat.le_trans (len_wd_mono (Nat.sub_le _ _)) Ly
    refine cl (vs:= [.slice Ab nb cb,.slice Aa na ca]) hw4 (g_ref1_Sub hw4.size (hy.ext hw4).wi (lx_ lb rfl) (hx.ext hw4).wi (lx_ la rfl) (by omega)) rfl (by kernel_rfl) fun xr96 v94 r96 e95 hw5=>?_
    obtain⟨_,_,rfl,⟨A98,n98,c98,rfl,j98,o98⟩,rfl⟩:=r96
    refine mv 1 rfl (pu (v:= .slice A98 n98 c98) rfl (by kernel_rfl) (pu (v:= .int .i64 0) rfl (by kernel_rfl) (mv 2 rfl (ne_ (sr (pf g6 0 rfl (by kernel_rfl) (wl_load rfl rfl (load_cell cellBool (hb9.ext (e14.trans (e91.trans e95))) rfl) (by decide) (mv 1 rfl ?_))))))))
    have L99:ln (sg true ((Int.natAbs y)-(Int.natAbs x)))≤17179869183:=by rw [ln_sg];exact L93
    refine cl (vs:= [.bool true,.slice A98 n98 c98]) hw5 (g_ref5_made hw5.size o98.wi (by rw [j98];exact Nat.le_trans L93 (by decide))) rfl (by kernel_rfl) fun xr102 v100 r102 e101 hw6=>?_
    obtain⟨s103,A103,n103,c103,rfl,z103⟩:=r102
    have hb105:=(hb15.ext (e91.trans (e95.trans e101)))
    refine so aggInt hb105 [.bool s103,.slice A103 n103 c103] hw6 ge16 rfl rfl rfl rfl fun v104 hb106 u107 hw7=>(ne_ (cw_ret (eo_ret [.agg #[.bool s103,.slice A103 n103 c103]] rfl ⟨⟨_,rfl,load_agg aggInt hb106 [.bool s103,.slice A103 n103 c103] rfl (bq rfl) rfl⟩,trivial⟩ ?_)))
    exact⟨_,rfl,⟨_,_,_,_,rfl,((z103.updT hb105 u107)).cast (by rw [sg_sub (by omega)];show sg true _+sg false _=_;rw [hx.sg,hy.sg,Int.add_comm])⟩,hw7⟩
  · 
   replace hsb:sb=false:=by simpa using hsb
   subst hsb
   refine cw_region (pf g1 0 rfl (by kernel_rfl) (wl_load rfl rfl (load_cell cellBool (hb4.ext (e8.trans e14)) rfl) (by decide) (pf g6 0 rfl (by kernel_rfl) (wl_load rfl rfl (load_cell cellBool (hb9.ext e14) rfl) (by decide) (pu (v:= .bool true) rfl (by kernel_rfl) (ne_ (cw_true rfl (sr (pf g1 1 rfl (by kernel_rfl) (wl_load rfl rfl (load_cell cellWords (hb4.ext (e8.trans e14)) rfl) (by decide) (pf g6 1 rfl (by kernel_rfl) (wl_load rfl rfl (load_cell cellWords (hb9.ext e14) rfl) (by decide) ?_))))))))))))
   have L109:(wd ((Int.natAbs x)+(Int.natAbs y))).length≤17179869184:=Nat.le_trans (len_wd_add _ _) (Nat.succ_le_succ (Nat.max_le.2 ⟨Nat.le_trans Lx (by decide),Nat.le_trans Ly (by decide)⟩))
   refine cl (vs:= [.slice Aa na ca,.slice Ab nb cb]) hw3 (g_ref1_Add hw3.size (hx.ext hw3).wi (lx_ la rfl) (hy.ext hw3).wi (lx_ lb rfl)) rfl (by kernel_rfl) fun xr112 v110 r112 e111 hw4=>?_
   obtain⟨A113,n113,c113,rfl,j113,o113⟩:=r112
   refine mv 1 rfl (ne_ (sr (pf g1 0 rfl (by kernel_rfl) (wl_load rfl rfl (load_cell cellBool (hb4.ext (e8.trans (e14.trans e111))) rfl) (by decide) (mv 1 rfl ?_)))))
   have L114:ln (sg false ((Int.natAbs x)+(Int.natAbs y)))≤17179869184:=by rw [ln_sg];exact L109
   refine cl (vs:= [F0,.slice A113 n113 c113]) hw4 (g_ref5_made hw4.size o113.wi (by rw [j113];exact Nat.le_trans L109 (by decide))) rfl (by kernel_rfl) fun xr117 v115 r117 e116 hw5=>?_
   obtain⟨s118,A118,n118,c118,rfl,z118⟩:=r117
   have hb120:=(hb15.ext (e111.trans e116))
   refine so aggInt hb120 [.bool s118,.slice A118 n118 c118] hw5 ge16 rfl rfl rfl rfl fun v119 hb121 u122 hw6=>(ne_ (cw_ret (eo_thenR (eo_ret [.agg #[.bool s118,.slice A118 n118 c118]] rfl ⟨⟨_,rfl,load_agg aggInt hb121 [.bool s118,.slice A118 n118 c118] rfl (bq rfl) rfl⟩,trivial⟩ ?_))))
   exact⟨_,rfl,⟨_,_,_,_,rfl,((z118.updT hb120 u122)).cast (by rw [sg_add,hx.sg,hy.sg])⟩,hw6⟩
set_option maxHeartbeats 4000000 in
theorem g_ref5_Sub {w:World}{sa:Bool}{Aa:Option Addr}{na ca:Nat}{x:Int}{sb:Bool}{Ab:Option Addr}{nb cb:Nat}{y:Int}{b:Nat}(hb:b≤w.heap.size) (hx:Zi w sa Aa na ca x) (la:na≤17179869183) (hy:Zi w sb Ab nb cb y) (lb:nb≤17179869183):
    Calls Tryz.prog 41 #[.agg #[.bool sa,.slice Aa na ca],.agg #[.bool sb,.slice Ab nb cb]] w (Gv w (ZR b (x-y))):=by
 refine Calls.mono (R:=Gv w (ZR w.heap.size (x-y))) ?_ (Gv.imp (ZR.imp hb))
 have Lx:ln x≤17179869183:=Nat.le_trans hx.ln la
 have Ly:ln y≤17179869183:=Nat.le_trans hy.ln lb
 refine sx_enter Tryz.func41 rfl (n:=13) rfl (bq rfl) (args:= [.agg #[.bool sa,.slice Aa na ca],.agg #[.bool sb,.slice Ab nb cb]]) (cw_keep [(0,.agg #[.bool sa,.slice Aa na ca]),(1,.agg #[.bool sb,.slice Ab nb cb])] ⟨rfl,rfl,trivial⟩ (sr (bx [.bool sa,.slice Aa na ca] (Ext.refl w) rfl rfl rfl fun g1 v2 hb4 ge5 e3 hw1=>(bxq [.bool sb,.slice Ab nb cb] hw1 hb4.lt rfl rfl rfl fun g6 v7 hb9 ge10 q11 e8 hw2=>(alq [F0,S0] hw2 hb9.lt (fun _=>by kernel_rfl) rfl fun g12 v13 hb15 ge16 q17 e14 hw3=>(ne_ (sr (lo aggInt (hb4.ext (e8.trans e14)) [.bool sa,.slice Aa na ca] rfl rfl rfl (pf g6 0 rfl (by kernel_rfl) (wl_load rfl rfl (load_cell cellBool (hb9.ext e14) rfl) (by decide) (pu (v:= .bool (!sb)) rfl (by kernel_rfl) (pf g6 1 rfl (by kernel_rfl) (wl_load rfl rfl (load_cell cellWords (hb9.ext e14) rfl) (by decide) ?_)))))))))))))
 refine pu (v:= .agg #[.bool (!sb),.slice Ab nb cb]) rfl (by kernel_rfl) ?_
 have L18:ln (x+(-y))≤17179869184:=Nat.le_trans (ln_add Lx (show ln (-y)≤17179869183 by rw [ln_neg];exact Ly)) (by decide)
 refine cl (vs:= [.agg #[.bool sa,.slice Aa na ca],.agg #[.bool (!sb),.slice Ab nb cb]]) hw3 (g_ref5_Add hw3.size (hx.ext hw3) (lx_ la rfl) (hy.ext hw3).not (lx_ lb rfl)) rfl (by kernel_rfl) fun xr21 v19 r21 e20 hw4=>?_
 obtain⟨s22,A22,n22,c22,rfl,z22⟩:=r21
 have hb24:=(hb15.ext e20)
 refine so aggInt hb24 [.bool s22,.slice A22 n22 c22] hw4 ge16 rfl rfl rfl rfl fun v23 hb25 u26 hw5=>(ne_ (cw_ret (eo_ret [.agg #[.bool s22,.slice A22 n22 c22]] rfl ⟨⟨_,rfl,load_agg aggInt hb25 [.bool s22,.slice A22 n22 c22] rfl (bq rfl) rfl⟩,trivial⟩ ?_)))
 exact⟨_,rfl,⟨_,_,_,_,rfl,((z22.updT hb24 u26)).cast (by omega)⟩,hw5⟩
set_option maxHeartbeats 4000000 in
theorem g_ref5_Mul {w:World}{sa:Bool}{Aa:Option Addr}{na ca:Nat}{x:Int}{sb:Bool}{Ab:Option Addr}{nb cb:Nat}{y:Int}{b:Nat}(hb:b≤w.heap.size) (hx:Zi w sa Aa na ca x) (la:na≤17179869183) (hy:Zi w sb Ab nb cb y) (lb:nb≤17179869183):
    Calls Tryz.prog 42 #[.agg #[.bool sa,.slice Aa na ca],.agg #[.bool sb,.slice Ab nb cb]] w (Gv w (ZR b (x*y))):=by
 refine Calls.mono (R:=Gv w (ZR w.heap.size (x*y))) ?_ (Gv.imp (ZR.imp hb))
 have Lx:ln x≤17179869183:=Nat.le_trans hx.ln la
 have Ly:ln y≤17179869183:=Nat.le_trans hy.ln lb
 refine sx_enter Tryz.func42 rfl (n:=18) rfl (bq rfl) (args:= [.agg #[.bool sa,.slice Aa na ca],.agg #[.bool sb,.slice Ab nb cb]]) (cw_keep [(0,.agg #[.bool sa,.slice Aa na ca]),(1,.agg #[.bool sb,.slice Ab nb cb])] ⟨rfl,rfl,trivial⟩ (sr (bx [.bool sa,.slice Aa na ca] (Ext.refl w) rfl rfl rfl fun g1 v2 hb4 ge5 e3 hw1=>(bxq [.bool sb,.slice Ab nb cb] hw1 hb4.lt rfl rfl rfl fun g6 v7 hb9 ge10 q11 e8 hw2=>(alq [F0,S0] hw2 hb9.lt (fun _=>by kernel_rfl) rfl fun g12 v13 hb15 ge16 q17 e14 hw3=>(ne_ (sr (pf g1 1 rfl (by kernel_rfl) (wl_load rfl rfl (load_cell cellWords (hb4.ext (e8.trans e14)) rfl) (by decide) (pf g6 1 rfl (by kernel_rfl) (wl_load rfl rfl (load_cell cellWords (hb9.ext e14) rfl) (by decide) ?_)))))))))))
 have L18:(wd ((Int.natAbs x)*(Int.natAbs y))).length≤34359738366:=Nat.le_trans (len_wd_mul _ _) (Nat.add_le_add Lx Ly)
 refine cl (vs:= [.slice Aa na ca,.slice Ab nb cb]) hw3 (g_ref2_Mul hw3.size (hx.ext hw3).wi (lx_ la rfl) (hy.ext hw3).wi (lx_ lb rfl)) rfl (by kernel_rfl) fun xr21 v19 r21 e20 hw4=>?_
 obtain⟨A22,n22,c22,rfl,j22,o22⟩:=r21
 refine mv 1 rfl (ne_ (sr (pf g1 0 rfl (by kernel_rfl) (wl_load rfl rfl (load_cell cellBool (hb4.ext (e8.trans (e14.trans e20))) rfl) (by decide) (pf g6 0 rfl (by kernel_rfl) (wl_load rfl rfl (load_cell cellBool (hb9.ext (e14.trans e20)) rfl) (by decide) (pu (v:= .bool (!(sa==sb))) rfl (by kernel_rfl) (mv 1 rfl ?_))))))))
 have L23:ln (sg (!(sa==sb)) ((Int.natAbs x)*(Int.natAbs y)))≤34359738366:=by rw [ln_sg];exact L18
 refine cl (vs:= [.bool (!(sa==sb)),.slice A22 n22 c22]) hw4 (g_ref5_made hw4.size o22.wi (by rw [j22];exact Nat.le_trans L18 (by decide))) rfl (by kernel_rfl) fun xr26 v24 r26 e25 hw5=>?_
 obtain⟨s27,A27,n27,c27,rfl,z27⟩:=r26
 have hb29:=(hb15.ext (e20.trans e25))
 refine so aggInt hb29 [.bool s27,.slice A27 n27 c27] hw5 ge16 rfl rfl rfl rfl fun v28 hb30 u31 hw6=>(ne_ (cw_ret (eo_ret [.agg #[.bool s27,.slice A27 n27 c27]] rfl ⟨⟨_,rfl,load_agg aggInt hb30 [.bool s27,.slice A27 n27 c27] rfl (bq rfl) rfl⟩,trivial⟩ ?_)))
 exact⟨_,rfl,⟨_,_,_,_,rfl,((z27.updT hb29 u31)).cast ((sg_mul _ _ _ _).trans (by rw [hx.sg,hy.sg]))⟩,hw6⟩
set_option maxHeartbeats 4000000 in
theorem g_ref5_MulAdd {w:World}{sa:Bool}{Aa:Option Addr}{na ca:Nat}{x:Int}{sb:Bool}{Ab:Option Addr}{nb cb:Nat}{y:Int}{sd:Bool}{Ad:Option Addr}{nd cd:Nat}{z:Int}{b:Nat}(hb:b≤w.heap.size) (hx:Zi w sa Aa na ca x) (la:na≤8589934591) (hy:Zi w sb Ab nb cb y) (lb:nb≤8589934591) (hz:Zi w sd Ad nd cd z) (ld:nd≤8589934591):
    Calls Tryz.prog 43 #[.agg #[.bool sa,.slice Aa na ca],.agg #[.bool sb,.slice Ab nb cb],.agg #[.bool sd,.slice Ad nd cd]] w (Gv w (ZR b (x*y+z))):=by
 refine Calls.mono (R:=Gv w (ZR w.heap.size (x*y+z))) ?_ (Gv.imp (ZR.imp hb))
 have Lx:ln x≤8589934591:=Nat.le_trans hx.ln la
 have Ly:ln y≤8589934591:=Nat.le_trans hy.ln lb
 have Lz:ln z≤8589934591:=Nat.le_trans hz.ln ld
 refine sx_enter Tryz.func43 rfl (n:=14) rfl (bq rfl) (args:= [.agg #[.bool sa,.slice Aa na ca],.agg #[.bool sb,.slice Ab nb cb],.agg #[.bool sd,.slice Ad nd cd]]) (cw_keep [(0,.agg #[.bool sa,.slice Aa na ca]),(1,.agg #[.bool sb,.slice Ab nb cb]),(2,.agg #[.bool sd,.slice Ad nd cd])] ⟨rfl,rfl,rfl,trivial⟩ (sr (bx [.bool sa,.slice Aa na ca] (Ext.refl w) rfl rfl rfl fun g1 v2 hb4 ge5 e3 hw1=>(bxq [.bool sb,.slice Ab nb cb] hw1 hb4.lt rfl rfl rfl fun g6 v7 hb9 ge10 q11 e8 hw2=>(bxq [.bool sd,.slice Ad nd cd] hw2 hb9.lt rfl rfl rfl fun g12 v13 hb15 ge16 q17 e14 hw3=>(alq [F0,S0] hw3 hb15.lt (fun _=>by kernel_rfl) rfl fun g18 v19 hb21 ge22 q23 e20 hw4=>(ne_ (sr (lo aggInt (hb4.ext (e8.trans (e14.trans e20))) [.bool sa,.slice Aa na ca] rfl rfl rfl (lo aggInt (hb9.ext (e14.trans e20)) [.bool sb,.slice Ab nb cb] rfl rfl rfl ?_))))))))))
 have L24:ln (x*y)≤17179869182:=Nat.le_trans (ln_mul Lx Ly) (by decide)
 refine cl (vs:= [.agg #[.bool sa,.slice Aa na ca],.agg #[.bool sb,.slice Ab nb cb]]) hw4 (g_ref5_Mul hw4.size (hx.ext hw4) (lx_ la rfl) (hy.ext hw4) (lx_ lb rfl)) rfl (by kernel_rfl) fun xr27 v25 r27 e26 hw5=>?_
 obtain⟨s28,A28,n28,c28,rfl,z28⟩:=r27
 refine alq [F0,S0] hw5 (hb21.ext e26).lt (fun _=>by kernel_rfl) rfl fun g29 v30 hb32 ge33 q34 e31 hw6=>(so aggInt hb32 [.bool s28,.slice A28 n28 c28] hw6 ge33 rfl rfl rfl rfl fun v35 hb37 u38 hw7=>(ne_ (sr (lo aggInt hb37 [.bool s28,.slice A28 n28 c28] rfl rfl rfl (lo aggInt ((hb15.ext (e20.trans (e26.trans e31))).updN u38 (by omega)) [.bool sd,.slice Ad nd cd] rfl rfl rfl ?_)))))
 have L40:ln ((x*y)+z)≤17179869183:=Nat.le_trans (ln_add L24 Lz) (by decide)
 refine cl (vs:= [.agg #[.bool s28,.slice A28 n28 c28],.agg #[.bool sd,.slice Ad nd cd]]) hw7 (g_ref5_Add hw7.size ((z28.ext e31).updT hb32 u38).zi (z28.le (lx_ L24 rfl)) (hz.ext hw7) (lx_ ld rfl)) rfl (by kernel_rfl) fun xr43 v41 r43 e42 hw8=>?_
 obtain⟨s44,A44,n44,c44,rfl,z44⟩:=r43
 have hb46:=(((hb21.ext (e26.trans e31)).updN u38 (by omega)).ext e42)
 refine so aggInt hb46 [.bool s44,.slice A44 n44 c44] hw8 ge22 rfl rfl rfl rfl fun v45 hb47 u48 hw9=>(ne_ (cw_ret (eo_ret [.agg #[.bool s44,.slice A44 n44 c44]] rfl ⟨⟨_,rfl,load_agg aggInt hb47 [.bool s44,.slice A44 n44 c44] rfl (bq rfl) rfl⟩,trivial⟩ ?_)))
 exact⟨_,rfl,⟨_,_,_,_,rfl,((z44.updT hb46 u48)).cast (rfl)⟩,hw9⟩
set_option maxHeartbeats 4000000 in
theorem g_ref5_Trunc {w:World}{sa:Bool}{Aa:Option Addr}{na ca:Nat}{x:Int}{sb:Bool}{Ab:Option Addr}{nb cb:Nat}{y:Int}{b:Nat}(hb:b≤w.heap.size) (hx:Zi w sa Aa na ca x) (la:na≤17179869183) (hy:Zi w sb Ab nb cb y) (lb:nb≤17179869183) (h0:y≠0):
    Calls Tryz.prog 107 #[.agg #[.bool sa,.slice Aa na ca],.agg #[.bool sb,.slice Ab nb cb]] w (Gv w (T3 (ZR b (x.tdiv y)) (ZR b (x.tmod y)) (Is (.int .i64 0)))):=by
 refine Calls.mono (R:=Gv w (T3 (ZR w.heap.size (x.tdiv y)) (ZR w.heap.size (x.tmod y)) (Is (.int .i64 0)))) ?_ (Gv.imp (T3.imp (ZR.imp hb) (ZR.imp hb) Is.imp))
 have Lx:ln x≤17179869183:=Nat.le_trans hx.ln la
 have Ly:ln y≤17179869183:=Nat.le_trans hy.ln lb
 have hy0:Int.natAbs y≠0:=by omega
 refine sx_enter Tryz.func107 rfl (n:=34) rfl (bq rfl) (args:= [.agg #[.bool sa,.slice Aa na ca],.agg #[.bool sb,.slice Ab nb cb]]) (cw_keep [(0,.agg #[.bool sa,.slice Aa na ca]),(1,.agg #[.bool sb,.slice Ab nb cb])] ⟨rfl,rfl,trivial⟩ (sr (bx [.bool sa,.slice Aa na ca] (Ext.refl w) rfl rfl rfl fun g1 v2 hb4 ge5 e3 hw1=>(bxq [.bool sb,.slice Ab nb cb] hw1 hb4.lt rfl rfl rfl fun g6 v7 hb9 ge10 q11 e8 hw2=>(alq [F0,S0] hw2 hb9.lt (fun _=>by kernel_rfl) rfl fun g12 v13 hb15 ge16 q17 e14 hw3=>(alq [F0,S0] hw3 hb15.lt (fun _=>by kernel_rfl) rfl fun g18 v19 hb21 ge22 q23 e20 hw4=>(mv 1 rfl (ne_ (sr (pf g1 1 rfl (by kernel_rfl) (wl_load rfl rfl (load_cell cellWords (hb4.ext (e8.trans (e14.trans e20))) rfl) (by decide) (pf g6 1 rfl (by kernel_rfl) (wl_load rfl rfl (load_cell cellWords (hb9.ext (e14.trans e20)) rfl) (by decide) ?_)))))))))))))
 have L24:(wd ((Int.natAbs x)/(Int.natAbs y))).length≤17179869183:=Nat.le_trans (len_wd_mono (Nat.div_le_self _ _)) Lx
 have L25:(wd ((Int.natAbs x)%(Int.natAbs y))).length≤17179869183:=Nat.le_trans (len_wd_mono (Nat.mod_le _ _)) Lx
 refine cl (vs:= [.slice Aa na ca,.slice Ab nb cb]) hw4 (g_ref3_DivMod hw4.size (hx.ext hw4).wi (lx_ la rfl) (hy.ext hw4).wi (lx_ lb rfl) hy0) rfl (by kernel_rfl) fun xr28 v26 r28 e27 hw5=>?_
 obtain⟨_,_,_,rfl,⟨A30,n30,c30,rfl,j30,o30⟩,⟨A31,n31,c31,rfl,j31,o31⟩,rfl⟩:=r28
 refine mv 1 rfl (pu (v:= .slice A30 n30 c30) rfl (by kernel_rfl) (pu (v:= .slice A31 n31 c31) rfl (by kernel_rfl) (pu (v:= .int .i64 0) rfl (by kernel_rfl) (mv 3 rfl (ne_ (cw_seq (sr (mv 1 rfl (pu (v:= .bool false) rfl (by kernel_rfl) (ne_ (cw_false rfl (cw_skip (eo_then ?_)))))))))))))
 refine cw_seq ?_
 have L32:ln (sg (!(sa==sb)) ((Int.natAbs x)/(Int.natAbs y)))≤17179869183:=by rw [ln_sg];exact L24
 have L34:ln (sg sa ((Int.natAbs x)%(Int.natAbs y)))≤17179869183:=by rw [ln_sg];exact L25
 refine cw_draw mix 11 [] [Is (.pointer (some ⟨g1,0,none⟩)),Is (.bool sa),Is (.pointer (some ⟨g6,0,none⟩)),Is (.bool sb),Is (.bool (!(sa==sb))),Is (.slice A30 n30 c30),ZR w.heap.size (sg (!(sa==sb)) ((Int.natAbs x)/(Int.natAbs y))),Is (.pointer (some ⟨g1,0,none⟩)),Is (.bool sa),Is (.slice A31 n31 c31),ZR w.heap.size (sg sa ((Int.natAbs x)%(Int.natAbs y)))] [[],[0],[],[2],[1,3],[],[4,5],[],[7],[],[8,9]] [[],[0],[],[2],[0,1,2,3],[],[0,1,2,3,4,5],[],[7],[],[0,1,2,3,4,5,6,7,8,9],[0,1,2,3,4,5,6,7,8,9,10],[0,1,2,3,4,5,6,7,8,9,10,11],[0,1,2,3,4,5,6,7,8,9,10,11,12]] rfl
  (obs_cons rfl rfl (hob rfl rfl ?_) (obs_cons rfl rfl (hob rfl rfl ?_) (obs_cons rfl rfl (hob rfl rfl ?_) (obs_cons rfl rfl (hob rfl rfl ?_) (obs_cons rfl rfl (hob rfl rfl ?_) (obs_cons rfl rfl (hob rfl rfl ?_) (obs_cons rfl rfl (hob rfl rfl ?_) (obs_cons rfl rfl (hob rfl rfl ?_) (obs_cons rfl rfl (hob rfl rfl ?_) (obs_cons rfl rfl (hob rfl rfl ?_) (obs_cons rfl rfl (hob rfl rfl ?_) obs_nil))))))))))) ?_
 · 
  exact fun _ _=>deps_nil (pf g1 0 rfl (by kernel_rfl) (pi_done rfl (Ext.refl _) rfl))
 · 
  exact fun _ e39=>dk rfl rfl (deps_nil (wl_load rfl rfl (load_cell cellBool (hb4.ext (e8.trans (e14.trans (e20.trans (e27.trans e39))))) rfl) (by decide) (pi_done rfl (Ext.refl _) rfl)))
 · 
  exact fun _ _=>deps_nil (pf g6 0 rfl (by kernel_rfl) (pi_done rfl (Ext.refl _) rfl))
 · 
  exact fun _ e48=>dk rfl rfl (deps_nil (wl_load rfl rfl (load_cell cellBool (hb9.ext (e14.trans (e20.trans (e27.trans e48)))) rfl) (by decide) (pi_done rfl (Ext.refl _) rfl)))
 · 
  exact fun _ _=>dk rfl rfl (dk rfl rfl (deps_nil (pu (v:= .bool (!(sa==sb))) rfl (by kernel_rfl) (pi_done rfl (Ext.refl _) rfl))))
 · 
  exact fun _ _=>deps_nil (mv 1 rfl (pi_done rfl (Ext.refl _) rfl))
 · 
  intro v68 e69
  have hw6:=hw5.trans e69
  refine dk rfl rfl (dk rfl rfl (deps_nil ?_))
  have L80:ln (sg (!(sa==sb)) ((Int.natAbs x)/(Int.natAbs y)))≤17179869183:=by rw [ln_sg];exact L24
  refine cl (vs:= [.bool (!(sa==sb)),.slice A30 n30 c30]) hw6 (g_ref5_made hw6.size (o30.ext e69).wi (by rw [j30];exact Nat.le_trans L24 (by decide))) rfl (by kernel_rfl) fun xr83 v81 r83 e82 hw7=>?_
  obtain⟨s84,A84,n84,c84,rfl,z84⟩:=r83
  exact pi_done rfl e82 ⟨_,_,_,_,rfl,z84⟩
 · 
  exact fun _ _=>deps_nil (pf g1 0 rfl (by kernel_rfl) (pi_done rfl (Ext.refl _) rfl))
 · 
  exact fun _ e88=>dk rfl rfl (deps_nil (wl_load rfl rfl (load_cell cellBool (hb4.ext (e8.trans (e14.trans (e20.trans (e27.trans e88))))) rfl) (by decide) (pi_done rfl (Ext.refl _) rfl)))
 · 
  exact fun _ _=>deps_nil (mv 1 rfl (pi_done rfl (Ext.refl _) rfl))
 · 
  intro v96 e97
  have hw6:=hw5.trans e97
  refine dk rfl rfl (dk rfl rfl (deps_nil ?_))
  have L108:ln (sg sa ((Int.natAbs x)%(Int.natAbs y)))≤17179869183:=by rw [ln_sg];exact L25
  refine cl (vs:= [.bool sa,.slice A31 n31 c31]) hw6 (g_ref5_made hw6.size (o31.ext e97).wi (by rw [j31];exact Nat.le_trans L25 (by decide))) rfl (by kernel_rfl) fun xr111 v109 r111 e110 hw7=>?_
  obtain⟨s112,A112,n112,c112,rfl,z112⟩:=r111
  exact pi_done rfl e110 ⟨_,_,_,_,rfl,z112⟩
 · 
  intro v113 e114
  have hw6:=hw5.trans e114
  refine dk rfl rfl (dk rfl rfl (dk rfl rfl (dk rfl rfl (dk rfl rfl (dk rfl rfl (deps_cons rfl rfl fun x145 y146 h147 e148 f149=>?_))))))
  obtain⟨s150,A150,n150,c150,rfl,z150⟩:=h147
  have z150:=z150.ext f149
  refine dk rfl rfl (dk rfl rfl (dk rfl rfl (deps_cons rfl rfl fun x166 y167 h168 e169 f170=>?_)))
  obtain⟨s171,A171,n171,c171,rfl,z171⟩:=h168
  have z171:=z171.ext f170
  refine deps_nil ?_
  have hb173:=(hb15.ext (e20.trans (e27.trans e114)))
  refine so aggInt hb173 [.bool s150,.slice A150 n150 c150] hw6 ge16 rfl rfl rfl rfl fun v172 hb174 u175 hw7=>?_
  have hb178:=((hb21.ext (e27.trans e114)).updN u175 (by omega))
  refine so aggInt hb178 [.bool s171,.slice A171 n171 c171] hw7 ge22 rfl rfl rfl rfl fun v177 hb179 u180 hw8=>(mv 1 rfl (wl_nil (eo_np (eo_then (cw_ret (eo_ret [.agg #[.bool s150,.slice A150 n150 c150],.agg #[.bool s171,.slice A171 n171 c171],I0] rfl ⟨⟨_,rfl,load_agg aggInt (hb174.updN u180 (by omega)) [.bool s150,.slice A150 n150 c150] rfl (bq rfl) rfl⟩,⟨_,rfl,load_agg aggInt hb179 [.bool s171,.slice A171 n171 c171] rfl (bq rfl) rfl⟩,rfl,trivial⟩ ?_))))))
  exact⟨_,rfl,⟨_,_,_,rfl,⟨_,_,_,_,rfl,(((z150.updT hb173 u175).updT hb178 u180)).cast ((sg_tdiv _ _ _ _).trans (by rw [hx.sg,hy.sg]))⟩,⟨_,_,_,_,rfl,(((z171.updT hb173 u175).updT hb178 u180)).cast ((sg_tmod sa sb _ _).trans (by rw [hx.sg,hy.sg]))⟩,rfl⟩,hw8⟩
set_option maxHeartbeats 4000000 in
theorem g_ref5_Trunc_bad {w:World}{sa:Bool}{Aa:Option Addr}{na ca:Nat}{x:Int}{sb:Bool}{Ab:Option Addr}{nb cb:Nat}{y:Int}{b:Nat}(hb:b≤w.heap.size) (hx:Zi w sa Aa na ca x) (la:na≤17179869183) (hy:Zi w sb Ab nb cb y) (lb:nb≤17179869183) (h0:y=0):
    Calls Tryz.prog 107 #[.agg #[.bool sa,.slice Aa na ca],.agg #[.bool sb,.slice Ab nb cb]] w (Gv w (T3 (ZR b (0)) (ZR b (0)) (Is (.int .i64 4)))):=by
 refine Calls.mono (R:=Gv w (T3 (ZR w.heap.size (0)) (ZR w.heap.size (0)) (Is (.int .i64 4)))) ?_ (Gv.imp (T3.imp (ZR.imp hb) (ZR.imp hb) Is.imp))
 have Lx:ln x≤17179869183:=Nat.le_trans hx.ln la
 have Ly:ln y≤17179869183:=Nat.le_trans hy.ln lb
 have hy0:Int.natAbs y=0:=by omega
 refine sx_enter Tryz.func107 rfl (n:=34) rfl (bq rfl) (args:= [.agg #[.bool sa,.slice Aa na ca],.agg #[.bool sb,.slice Ab nb cb]]) (cw_keep [(0,.agg #[.bool sa,.slice Aa na ca]),(1,.agg #[.bool sb,.slice Ab nb cb])] ⟨rfl,rfl,trivial⟩ (sr (bx [.bool sa,.slice Aa na ca] (Ext.refl w) rfl rfl rfl fun g1 v2 hb4 ge5 e3 hw1=>(bxq [.bool sb,.slice Ab nb cb] hw1 hb4.lt rfl rfl rfl fun g6 v7 hb9 ge10 q11 e8 hw2=>(alq [F0,S0] hw2 hb9.lt (fun _=>by kernel_rfl) rfl fun g12 v13 hb15 ge16 q17 e14 hw3=>(alq [F0,S0] hw3 hb15.lt (fun _=>by kernel_rfl) rfl fun g18 v19 hb21 ge22 q23 e20 hw4=>(mv 1 rfl (ne_ (sr (pf g1 1 rfl (by kernel_rfl) (wl_load rfl rfl (load_cell cellWords (hb4.ext (e8.trans (e14.trans e20))) rfl) (by decide) (pf g6 1 rfl (by kernel_rfl) (wl_load rfl rfl (load_cell cellWords (hb9.ext (e14.trans e20)) rfl) (by decide) ?_)))))))))))))
 refine cl (vs:= [.slice Aa na ca,.slice Ab nb cb]) hw4 (g_ref3_DivMod_bad (hy.ext hw4).wi (lx_ lb rfl) hy0) rfl (by kernel_rfl) fun xr26 v24 r26 e25 hw5=>?_
 obtain rfl:=r26
 refine mv 1 rfl (pu (v:= .slice none 0 0) rfl (by kernel_rfl) (pu (v:= .slice none 0 0) rfl (by kernel_rfl) (pu (v:= .int .i64 4) rfl (by kernel_rfl) (mv 3 rfl (ne_ (cw_seq (sr (mv 1 rfl (pu (v:= .bool true) rfl (by kernel_rfl) (ne_ (cw_true rfl (sr (pu (v:= .agg #[F0,S0]) rfl (by kernel_rfl) ?_)))))))))))))
 refine pu (v:= .agg #[F0,S0]) rfl (by kernel_rfl) ?_
 have hb28:=(hb15.ext (e20.trans e25))
 refine so aggInt hb28 [F0,S0] hw5 ge16 rfl rfl rfl rfl fun v27 hb29 u30 hw6=>?_
 have hb33:=((hb21.ext e25).updN u30 (by omega))
 refine so aggInt hb33 [F0,S0] hw6 ge22 rfl rfl rfl rfl fun v32 hb34 u35 hw7=>(mv 1 rfl (ne_ (cw_ret (eo_thenR (eo_ret [.agg #[F0,S0],.agg #[F0,S0],.int .i64 4] rfl ⟨⟨_,rfl,load_agg aggInt (hb29.updN u35 (by omega)) [F0,S0] rfl (bq rfl) rfl⟩,⟨_,rfl,load_agg aggInt hb34 [F0,S0] rfl (bq rfl) rfl⟩,rfl,trivial⟩ ?_)))))
 exact⟨_,rfl,⟨_,_,_,rfl,⟨_,_,_,_,rfl,(((Zr.zero (w:=v24) (base:=w.heap.size)).updT hb28 u30).updT hb33 u35)⟩,⟨_,_,_,_,rfl,(((Zr.zero (w:=v24) (base:=w.heap.size)).updT hb28 u30).updT hb33 u35)⟩,rfl⟩,hw7⟩
theorem tmod_zero_iff {x y:Int}:x.tmod y=0↔x.natAbs%y.natAbs=0:=by rw [←Int.natAbs_tmod,Int.natAbs_eq_zero]
theorem pow_lenG {m k N:Nat}(h:(wd m).length≤N):(wd (m^k)).length≤N*k+1:=by
 refine len_wd_le ?_
 have h1:=lt_pow_len m
 have h3:m^k≤(WB^N)^k:=Nat.pow_le_pow_left (Nat.le_of_lt (Nat.lt_of_lt_of_le h1 (Nat.pow_le_pow_right (by decide) h))) _
 rw [←Nat.pow_mul] at h3
 exact Nat.lt_of_le_of_lt h3 (Nat.pow_lt_pow_right (by decide) (by omega))
theorem pow_len5 {m k:Nat}(h:(wd m).length≤1048576) (hk:k≤256):(wd (m^k)).length≤268435457:=by
 have h1:=pow_lenG (k:=k) h
 have h2:1048576*k≤1048576*256:=Nat.mul_le_mul_left _ hk
 omega
theorem bits_Len5 (n:Nat) (hn:n≤18446744073709551615){w:World}:Calls Tryz.prog 156 #[.int .u64 (n:Int)] w (fun e w'=>∃b:Nat,(b=blen n∧b≤64)∧Gv w (Is (.int .i64 ((b:Nat):Int))) e w'):=
 (bits_Len n hn w).mono fun e w' h=>by
  obtain⟨b,h1,h2,rfl,rfl⟩:=h
  exact⟨b,⟨h1.out,h2⟩,_,rfl,rfl,Ext.refl _⟩
set_option maxHeartbeats 4000000 in
theorem g_mulnat_Pow_bad3 {w:World}{A:Option Addr}{an ac:Nat}{n:Int}(hbad:n<0):
    Calls Tryz.prog 121 #[.slice A an ac,.int .i64 n] w (Gv w (T2 (Is (.slice none 0 0)) (Is (.int .i64 3)))):=by
 refine sx_enter Tryz.func121 rfl (n:=32) rfl (bq rfl) (args:= [.slice A an ac,.int .i64 n]) (cw_keep [(0,.slice A an ac),(1,.int .i64 n)] ⟨rfl,rfl,trivial⟩ (sr (mv 2 rfl (ne_ (cw_seq (sr (mv 1 rfl (wl_cmp rfl rfl rfl true (lt_t hbad) (by decide) (ne_ (cw_true rfl (sr (mv 2 rfl (wl_nil ?_)))))))))))))
 refine eo_then (cw_ret (eo_thenR (eo_ret [S0,.int .i64 3] rfl ⟨rfl,rfl,trivial⟩ ?_)))
 exact⟨_,rfl,⟨_,_,rfl,rfl,rfl⟩,(Ext.refl w)⟩
set_option maxHeartbeats 4000000 in
theorem g_mulnat_Pow_bad5 {w:World}{A:Option Addr}{an ac:Nat}{n:Int}(hbad:256<n):
    Calls Tryz.prog 121 #[.slice A an ac,.int .i64 n] w (Gv w (T2 (Is (.slice none 0 0)) (Is (.int .i64 5)))):=by
 refine sx_enter Tryz.func121 rfl (n:=32) rfl (bq rfl) (args:= [.slice A an ac,.int .i64 n]) (cw_keep [(0,.slice A an ac),(1,.int .i64 n)] ⟨rfl,rfl,trivial⟩ (sr (mv 2 rfl (ne_ (cw_seq (sr (mv 1 rfl (wl_cmp rfl rfl rfl false (lt_f (by omega)) (by decide) (ne_ (cw_false rfl (cw_skip (eo_then (cw_seq ?_)))))))))))))
 refine sr (mv 1 rfl (wl_cmp rfl rfl rfl true (gt_t hbad) (by decide) (ne_ (cw_true rfl (sr (mv 2 rfl (ne_ (cw_ret (eo_thenR (eo_ret [S0,.int .i64 5] rfl ⟨rfl,rfl,trivial⟩ ?_))))))))))
 exact⟨_,rfl,⟨_,_,rfl,rfl,rfl⟩,(Ext.refl w)⟩
set_option maxHeartbeats 4000000 in
theorem g_mulnat_PowI {w:World}{A:Option Addr}{an ac m:Nat}(hx:Wi w A an ac m) (hal:an≤1048576){n:Nat}(hn:n≤256):
    Calls Tryz.prog 121 #[.slice A an ac,.int .i64 ((n:Nat):Int)] w (Gv w (T2 (WR w.heap.size (m^n)) (Is (.int .i64 0)))):=by
 have hml:=Nat.le_trans hx.len hal
 have hnl:=hx.len
 refine sx_enter Tryz.func121 rfl (n:=32) rfl (bq rfl) (args:= [.slice A an ac,.int .i64 ((n:Nat):Int)]) (cw_keep [(0,.slice A an ac),(1,.int .i64 ((n:Nat):Int))] ⟨rfl,rfl,trivial⟩ (sr (mv 2 rfl (ne_ (cw_seq (sr (mv 1 rfl (wl_cmp rfl rfl rfl false (cb_lt_f (a:=n) (b:=0) rfl rfl (by omega)) (by decide) (ne_ (cw_false rfl (cw_skip (eo_then (cw_seq ?_)))))))))))))
 refine sr (mv 1 rfl (wl_cmp rfl rfl rfl false (cb_gt_f (a:=n) (b:=256) rfl rfl (by omega)) (by decide) (ne_ (cw_false rfl (cw_skip (eo_then (sr (wl_bslice rfl rfl (by decide) (k:=1) (e:=67) [.int .u64 1] (fun _=>by kernel_rfl) fun g1 v2 nb3=>?_))))))))
 have o4:=O1.mk_ (x:=1) (b:=w.heap.size) nb3 (Ext.refl w).size
 have e5:=nb3.ext
 have hw1:=(Ext.refl w).trans e5
 have o7:=own1_wd o4 (show 1≤18446744073709551615 by decide) (show 1≠0 by decide)
 have j6:=len1 (show 1≤18446744073709551615 by decide) (show 1≠0 by decide)
 refine mv 1 rfl (ne_ (cw_seq (sr (mv 1 rfl (wl_pureE rfl rfl (v:= .int .u64 (IntKind.u64.wrap ((n:Nat):Int))) (v':= .int .u64 ((n:Nat):Int)) (by decide) (by kernel_rfl) (cv_u64 (by first | omega | exact hle64)) (wl_call rfl rfl (vs:= [.int .u64 ((n:Nat):Int)]) (by kernel_rfl) (by decide) (bits_Len5 n (by omega)) ?_))))))
 rintro _ v8 ⟨b011,p12,xr10,rfl,r10,e9⟩
 obtain⟨hb0,hb64⟩:=p12
 refine ret_intro ?_
 have hw2:=hw1.trans e9
 obtain rfl:=r10
 refine wl_ar rfl rfl rfl (((b011:Nat):Int)-1) (ar_i64s rfl (by omega) (by omega)) (by decide) (mv 1 rfl (ne_ (cw_block ?_)))
 refine cw_loop (T:=World×Nat×Nat×Option Addr×Nat×Nat)
  (fun⟨wr,j,p,PA,pn,pc⟩=> [(0,.slice A an ac),(1,.int .i64 ((n:Nat):Int)),(6,.slice PA pn pc),(7,.int .i64 (((j:Nat):Int)-1))])
  (fun⟨wr,j,p,PA,pn,pc⟩=>wr)
  (fun⟨wr,j,p,PA,pn,pc⟩=>(Ext w wr)∧(j≤64)∧(p=m^(n/2^j))∧(pn=(wd p).length)∧(Own wr w.heap.size 67 1 PA pn pc ((wd p).map W64)))
  (fun⟨wr,j,p,PA,pn,pc⟩=>j)
  (⟨v8,b011,1,(some ⟨g1,0,none⟩),1,1⟩:World×Nat×Nat×Option Addr×Nat×Nat) ⟨hw2,hb64,(by rw [Nat.div_eq_of_lt (by rw [hb0];exact lt_blen n)];rfl),j6,(o7.ext e9)⟩ rfl ⟨rfl,rfl,rfl,rfl,trivial⟩ ?_
 rintro⟨wr,j,p,PA,pn,pc⟩ ⟨hw1,hj,hp,hpn,hpo⟩
 refine cw_re [(0,.slice A an ac),(1,.int .i64 ((n:Nat):Int)),(6,.slice PA pn pc),(7,.int .i64 (((j:Nat):Int)-1))] wr rfl ⟨rfl,rfl,rfl,rfl,trivial⟩ (cw_seq (cw_seq ?_))
 by_cases hj0:0<j
 · 
  have hj1:((j:Nat):Int)-1=((j-1:Nat):Int):=by omega
  refine cw_keep [(0,.slice A an ac),(1,.int .i64 ((n:Nat):Int)),(6,.slice PA pn pc),(7,.int .i64 (((j:Nat):Int)-1))] ⟨rfl,rfl,rfl,rfl,trivial⟩ ?_
  rw [hj1]
  have hpl:(wd p).length≤268435457:=by rw [hp];exact pow_len5 hml (Nat.le_trans (Nat.div_le_self _ _) hn)
  have hql:(wd (p*p)).length≤536870914:=Nat.le_trans (len_wd_mul _ _) (by omega)
  refine cw_region (mv 1 rfl (wl_cmp rfl rfl rfl true (cb_ge_t (a:=j-1) (b:=0) rfl rfl (by omega)) (by decide) (ne_ (cw_true rfl (cw_skip (eo_then (cw_seq (cw_block (sr (mv 1 rfl (cl (vs:= [.slice PA pn pc]) hw1 (rx_Square hw1.size hpo.wi (by omega)) rfl (by kernel_rfl) fun xr15 v13 r15 e14 hw2=>?_)))))))))))
  obtain⟨A16,n16,c16,rfl,j16,o16⟩:=r15
  refine mv 1 rfl (ne_ (cw_seq ?_))
  by_cases ho:(n/2^(j-1))%2=1
  · 
   refine cw_region (mv 2 rfl (wl_op rfl rfl rfl (r:= .int .i64 ((n/2^(j-1):Nat):Int)) rfl (fun w=>i64_shr (x:=n) (s:=j-1) (by omega) _ _ w) (by decide) (wl_op rfl rfl rfl (r:= .int .i64 (((n/2^(j-1))%2:Nat):Int)) rfl (fun w=>i64_and1 (x:=n/2^(j-1)) (by have:=Nat.div_le_self n (2^(j-1));omega) _ _ w) (by decide) (wl_cmp rfl rfl rfl true (cb_eq_t (a:=(n/2^(j-1))%2) (b:=1) rfl rfl (by omega)) (by decide) (ne_ (cw_true rfl (cw_region (mv 2 rfl (cl (vs:= [.slice A16 n16 c16,.slice A an ac]) hw2 (rx_MulW hw2.size o16.wi (hx.ext hw2) (by omega)) rfl (by kernel_rfl) fun xr19 v17 r19 e18 hw3=>?_)))))))))
   obtain⟨A20,n20,c20,rfl,j20,o20⟩:=r19
   refine mv 1 rfl (wl_nil (eo_block_normal (eo_then (cw_region (mv 1 rfl (wl_ar rfl rfl rfl (((j-1:Nat):Int)-1) (ar_i64s rfl (by omega) (by omega)) (by decide) (mv 1 rfl (wl_nil (eo_round (⟨v17,j-1,p*p*m,A20,n20,c20⟩:World×Nat×Nat×Option Addr×Nat×Nat) ⟨hw3,(by omega),(by have h:=pow_half (S:=m) (n:=n) (k:=j-1);rw [Nat.sub_add_cancel hj0,if_pos ho,←hp] at h;exact h.symm),j20,o20⟩ (show j-1<j by omega) rfl ⟨rfl,rfl,rfl,rfl,trivial⟩)))))))))
  · 
   refine cw_region (mv 2 rfl (wl_op rfl rfl rfl (r:= .int .i64 ((n/2^(j-1):Nat):Int)) rfl (fun w=>i64_shr (x:=n) (s:=j-1) (by omega) _ _ w) (by decide) (wl_op rfl rfl rfl (r:= .int .i64 (((n/2^(j-1))%2:Nat):Int)) rfl (fun w=>i64_and1 (x:=n/2^(j-1)) (by have:=Nat.div_le_self n (2^(j-1));omega) _ _ w) (by decide) (wl_cmp rfl rfl rfl false (cb_eq_f (a:=(n/2^(j-1))%2) (b:=1) rfl rfl (by omega)) (by decide) (ne_ (cw_false rfl (cw_skip (eo_block_normal (eo_then (cw_region (mv 1 rfl (wl_ar rfl rfl rfl (((j-1:Nat):Int)-1) (ar_i64s rfl (by omega) (by omega)) (by decide) (mv 1 rfl ?_)))))))))))))
   refine wl_nil (eo_round (⟨v13,j-1,p*p,A16,n16,c16⟩:World×Nat×Nat×Option Addr×Nat×Nat) ⟨hw2,(by omega),(by have h:=pow_half (S:=m) (n:=n) (k:=j-1);rw [Nat.sub_add_cancel hj0,if_neg ho,←hp,Nat.mul_one] at h;exact h.symm),j16,o16⟩ (show j-1<j by omega) rfl ⟨rfl,rfl,rfl,rfl,trivial⟩)
 · 
  have hj0e:j=0:=by omega
  refine cw_region (mv 1 rfl (wl_cmp rfl rfl rfl false (ge_f (by omega)) (by decide) (ne_ (cw_false rfl (cw_exit (eo_thenX (eo_loopX (eo_block_here (eo_then (sr (mv 3 rfl (ne_ (cw_ret ?_)))))))))))))
  refine eo_ret [.slice PA pn pc,I0] rfl ⟨rfl,rfl,trivial⟩ ?_
  have hpm:p=m^n:=by rw [hp,hj0e,Nat.pow_zero,Nat.div_one]
  subst hpm
  exact⟨_,rfl,⟨_,_,rfl,⟨_,_,_,rfl,hpn,hpo⟩,rfl⟩,hw1⟩
theorem g_mulnat_Pow {b:Nat}{w:World}{A:Option Addr}{an ac m:Nat}(hx:Wi w A an ac m) (hal:an≤1048576){n:Nat}(hn:n≤256) (hb:b≤w.heap.size):Calls Tryz.prog 121 #[.slice A an ac,.int .i64 ((n:Nat):Int)] w (Gv w (T2 (WR b (m^n)) (Is (.int .i64 0)))):=(g_mulnat_PowI hx hal hn).mono (Gv.imp (T2.imp (WR.imp hb) Is.imp))
set_option maxHeartbeats 4000000 in
theorem g_ref2_PowI {w:World}{A:Option Addr}{an ac m:Nat}(hx:Wi w A an ac m) (hal:an≤1048576){n:Nat}(hn:n≤256):
    Calls Tryz.prog 106 #[.slice A an ac,.int .i64 ((n:Nat):Int)] w (Gv w (T2 (WR w.heap.size (m^n)) (Is (.int .i64 0)))):=by
 have hml:=Nat.le_trans hx.len hal
 have hnl:=hx.len
 refine sx_enter Tryz.func106 rfl (n:=22) rfl (bq rfl) (args:= [.slice A an ac,.int .i64 ((n:Nat):Int)]) (cw_keep [(0,.slice A an ac),(1,.int .i64 ((n:Nat):Int))] ⟨rfl,rfl,trivial⟩ (sr (mv 2 rfl (ne_ (cw_seq (sr (mv 1 rfl (wl_cmp rfl rfl rfl false (cb_lt_f (a:=n) (b:=0) rfl rfl (by omega)) (by decide) (ne_ (cw_false rfl (cw_skip (eo_then (cw_seq ?_)))))))))))))
 refine sr (mv 1 rfl (wl_cmp rfl rfl rfl false (cb_gt_f (a:=n) (b:=256) rfl rfl (by omega)) (by decide) (ne_ (cw_false rfl (cw_skip (eo_then (sr (wl_bslice rfl rfl (by decide) (k:=1) (e:=67) [.int .u64 1] (fun _=>by kernel_rfl) fun g1 v2 nb3=>?_))))))))
 have o4:=O1.mk_ (x:=1) (b:=w.heap.size) nb3 (Ext.refl w).size
 have e5:=nb3.ext
 have hw1:=(Ext.refl w).trans e5
 have o7:=own1_wd o4 (show 1≤18446744073709551615 by decide) (show 1≠0 by decide)
 have j6:=len1 (show 1≤18446744073709551615 by decide) (show 1≠0 by decide)
 refine mv 1 rfl (ne_ (cw_seq (sr (mv 1 rfl (ne_ (cw_block ?_))))))
 refine cw_loop (T:=World×Nat×Nat×Option Addr×Nat×Nat)
  (fun⟨wr,i,p,PA,pn,pc⟩=> [(0,.slice A an ac),(1,.int .i64 ((n:Nat):Int)),(6,.slice PA pn pc),(7,.int .i64 ((i:Nat):Int))])
  (fun⟨wr,i,p,PA,pn,pc⟩=>wr)
  (fun⟨wr,i,p,PA,pn,pc⟩=>(Ext w wr)∧(i≤n)∧(p=m^i)∧(pn=(wd p).length)∧(Own wr w.heap.size 67 1 PA pn pc ((wd p).map W64)))
  (fun⟨wr,i,p,PA,pn,pc⟩=>n-i)
  (⟨v2,0,1,(some ⟨g1,0,none⟩),1,1⟩:World×Nat×Nat×Option Addr×Nat×Nat) ⟨hw1,(Nat.zero_le _),(by rw [Nat.pow_zero]),j6,o7⟩ rfl ⟨rfl,rfl,rfl,rfl,trivial⟩ ?_
 rintro⟨wr,i,p,PA,pn,pc⟩ ⟨hw1,hi,hp,hpn,hpo⟩
 refine cw_re [(0,.slice A an ac),(1,.int .i64 ((n:Nat):Int)),(6,.slice PA pn pc),(7,.int .i64 ((i:Nat):Int))] wr rfl ⟨rfl,rfl,rfl,rfl,trivial⟩ (cw_seq (cw_seq ?_))
 by_cases hin:i<n
 · 
  have hpl:(wd p).length≤268435457:=by rw [hp];exact pow_len5 hml (by omega)
  refine cw_region (mv 2 rfl (wl_cmp rfl rfl rfl true (cb_lt_t (a:=i) (b:=n) rfl rfl (by omega)) (by decide) (ne_ (cw_true rfl (cw_skip (eo_then (cw_seq (cw_block (cw_region (mv 2 rfl (cl (vs:= [.slice PA pn pc,.slice A an ac]) hw1 (g_ref2_Mul hw1.size hpo.wi (by omega) (hx.ext hw1) (by omega)) rfl (by kernel_rfl) fun xr10 v8 r10 e9 hw2=>?_)))))))))))
  obtain⟨A11,n11,c11,rfl,j11,o11⟩:=r10
  refine mv 1 rfl (wl_nil (eo_block_normal (eo_then (cw_region (mv 1 rfl (wl_ar rfl rfl rfl ((i+1:Nat):Int) (ai_add (a:=i) (b:=1) rfl rfl (by omega)) (by decide) (mv 1 rfl (wl_nil (eo_round (⟨v8,i+1,p*m,A11,n11,c11⟩:World×Nat×Nat×Option Addr×Nat×Nat) ⟨hw2,(by omega),(by rw [hp,Nat.pow_succ]),j11,o11⟩ (show n-(i+1)<n-i by omega) rfl ⟨rfl,rfl,rfl,rfl,trivial⟩)))))))))
 · 
  have hie:i=n:=by omega
  refine cw_region (mv 2 rfl (wl_cmp rfl rfl rfl false (cb_lt_f (a:=i) (b:=n) rfl rfl (by omega)) (by decide) (ne_ (cw_false rfl (cw_exit (eo_thenX (eo_loopX (eo_block_here (eo_then (sr (mv 3 rfl (ne_ (cw_ret ?_)))))))))))))
  refine eo_ret [.slice PA pn pc,I0] rfl ⟨rfl,rfl,trivial⟩ ?_
  have hpm:p=m^n:=by rw [hp,hie]
  subst hpm
  exact⟨_,rfl,⟨_,_,rfl,⟨_,_,_,rfl,hpn,hpo⟩,rfl⟩,hw1⟩
theorem g_ref2_Pow {b:Nat}{w:World}{A:Option Addr}{an ac m:Nat}(hx:Wi w A an ac m) (hal:an≤1048576){n:Nat}(hn:n≤256) (hb:b≤w.heap.size):Calls Tryz.prog 106 #[.slice A an ac,.int .i64 ((n:Nat):Int)] w (Gv w (T2 (WR b (m^n)) (Is (.int .i64 0)))):=(g_ref2_PowI hx hal hn).mono (Gv.imp (T2.imp (WR.imp hb) Is.imp))
theorem len_wd_w5 {x:Nat}(h:x≤18446744073709551615):(wd x).length≤1:=len_wd_le (by rw [WB_def,Nat.pow_one];omega)
theorem of_neg5 {n:Int}(h1: -9223372036854775808≤n) (h:n<0):IntKind.u64.wrap (IntKind.i64.wrap (0-n))=((Int.natAbs n:Nat):Int):=by
 by_cases h2:n= -9223372036854775808
 ·subst h2;decide
 ·rw [IntWalk.i64_in _ ⟨by omega,by omega⟩,IntWalk.u64_in _ ⟨by omega,by omega⟩];omega
theorem of_pos5 {n:Int}(h2:n≤9223372036854775807) (h:¬n<0):IntKind.u64.wrap n=((Int.natAbs n:Nat):Int):=by
 rw [IntWalk.u64_in _ ⟨by omega,by omega⟩];omega
def smV (x:Int):Int:=if-9223372036854775808≤x∧x≤9223372036854775807 then x else 0
def smE (x:Int):Int:=if-9223372036854775808≤x∧x≤9223372036854775807 then 0 else 5
theorem small_big {x:Int}(h:1<ln x):18446744073709551616≤Int.natAbs x:=by
 refine Nat.le_of_not_lt fun hlt=>?_
 have h1:(wd (Int.natAbs x)).length≤1:=len_wd_le (by rw [WB_def,Nat.pow_one];exact hlt)
 have h2:ln x=(wd (Int.natAbs x)).length:=rfl
 omega
theorem small_word {x:Int}(h:ln x=1):(wd (Int.natAbs x)).getD 0 0=Int.natAbs x∧Int.natAbs x≤18446744073709551615:=by
 have h2:(wd (Int.natAbs x)).length=1:=h
 have h1:=lt_pow_len (Int.natAbs x)
 rw [h2,Nat.pow_one,WB_def] at h1
 refine⟨?_,by omega⟩
 rw [first_word (Wf_wd _) (by rw [nv_wd,WB_def];exact h1),nv_wd]
set_option maxHeartbeats 4000000 in
theorem g_ref5_Neg {w:World}{sa:Bool}{Aa:Option Addr}{na ca:Nat}{x:Int}{b:Nat}(hb:b≤w.heap.size) (hx:Zi w sa Aa na ca x) (la:na≤17179869183):
    Calls Tryz.prog 38 #[.agg #[.bool sa,.slice Aa na ca]] w (Gv w (ZR b (-x))):=by
 refine Calls.mono (R:=Gv w (ZR w.heap.size (-x))) ?_ (Gv.imp (ZR.imp hb))
 have Lx:ln x≤17179869183:=Nat.le_trans hx.ln la
 refine sx_enter Tryz.func38 rfl (n:=9) rfl (bq rfl) (args:= [.agg #[.bool sa,.slice Aa na ca]]) (cw_keep [(0,.agg #[.bool sa,.slice Aa na ca])] ⟨rfl,trivial⟩ (sr (bx [.bool sa,.slice Aa na ca] (Ext.refl w) rfl rfl rfl fun g1 v2 hb4 ge5 e3 hw1=>(alq [F0,S0] hw1 hb4.lt (fun _=>by kernel_rfl) rfl fun g6 v7 hb9 ge10 q11 e8 hw2=>(ne_ (sr (pf g1 0 rfl (by kernel_rfl) (wl_load rfl rfl (load_cell cellBool (hb4.ext e8) rfl) (by decide) (pu (v:= .bool (!sa)) rfl (by kernel_rfl) (pf g1 1 rfl (by kernel_rfl) (wl_load rfl rfl (load_cell cellWords (hb4.ext e8) rfl) (by decide) ?_)))))))))))
 have L12:ln (sg (!sa) (Int.natAbs x))≤17179869183:=by rw [ln_sg];exact Lx
 refine cl (vs:= [.bool (!sa),.slice Aa na ca]) hw2 (g_ref5_made hw2.size (hx.ext hw2).wi (lx_ la rfl)) rfl (by kernel_rfl) fun xr15 v13 r15 e14 hw3=>?_
 obtain⟨s16,A16,n16,c16,rfl,z16⟩:=r15
 have hb18:=(hb9.ext e14)
 refine so aggInt hb18 [.bool s16,.slice A16 n16 c16] hw3 ge10 rfl rfl rfl rfl fun v17 hb19 u20 hw4=>(ne_ (cw_ret (eo_ret [.agg #[.bool s16,.slice A16 n16 c16]] rfl ⟨⟨_,rfl,load_agg aggInt hb19 [.bool s16,.slice A16 n16 c16] rfl (bq rfl) rfl⟩,trivial⟩ ?_)))
 exact⟨_,rfl,⟨_,_,_,_,rfl,((z16.updT hb18 u20)).cast ((sg_not _ _).trans (by rw [hx.sg]))⟩,hw4⟩
set_option maxHeartbeats 4000000 in
theorem g_ref5_Of {w:World}{n:Int}{b:Nat}(hb:b≤w.heap.size) (h1: -9223372036854775808≤n) (h2:n≤9223372036854775807):
    Calls Tryz.prog 33 #[.int .i64 n] w (Gv w (ZR b (n))):=by
 refine Calls.mono (R:=Gv w (ZR w.heap.size (n))) ?_ (Gv.imp (ZR.imp hb))
 refine sx_enter Tryz.func33 rfl (n:=14) rfl (bq rfl) (args:= [.int .i64 n]) (cw_keep [(0,.int .i64 n)] ⟨rfl,trivial⟩ (sr (al [F0,S0] (Ext.refl w) (fun _=>by kernel_rfl) rfl fun g1 v2 hb4 ge5 e3 hw1=>(ne_ (cw_seq (cw_seq ?_))))))
 by_cases hn0:n<0
 · 
  refine cw_region (mv 1 rfl (wl_cmp rfl rfl rfl true (lt_t hn0) (by decide) (ne_ (cw_true rfl (sr (mv 1 rfl (pu (v:= .int .i64 (IntKind.i64.wrap (0-n))) rfl (by kernel_rfl) (wl_pureE rfl rfl (v:= .int .u64 (IntKind.u64.wrap (IntKind.i64.wrap (0-n)))) (v':= .int .u64 (((Int.natAbs n):Nat):Int)) (by decide) (by kernel_rfl) (by rw [of_neg5 h1 hn0]) (wl_bslice rfl rfl (by decide) (k:=1) (e:=67) [.int .u64 (((Int.natAbs n):Nat):Int)] (fun _=>by kernel_rfl) fun g6 v7 nb8=>?_)))))))))
  have o9:=O1.mk_ (x:=(Int.natAbs n)) (b:=w.heap.size) nb8 hw1.size
  have e10:=nb8.ext
  have hw2:=hw1.trans e10
  have L13:ln (sg true (Int.natAbs n))≤1:=by rw [ln_sg];exact (len_wd_w5 (show Int.natAbs n≤18446744073709551615 by omega))
  refine cl (vs:= [.bool true,.slice (some ⟨g6,0,none⟩) 1 1]) hw2 (g_ref5_made hw2.size (own1_wi o9 (show Int.natAbs n≤18446744073709551615 by omega)) (by decide)) rfl (by kernel_rfl) fun xr16 v14 r16 e15 hw3=>?_
  obtain⟨s17,A17,n17,c17,rfl,z17⟩:=r16
  have hb19:=(hb4.ext (e10.trans e15))
  refine so aggInt hb19 [.bool s17,.slice A17 n17 c17] hw3 ge5 rfl rfl rfl rfl fun v18 hb20 u21 hw4=>(ne_ (cw_ret (eo_thenR (eo_ret [.agg #[.bool s17,.slice A17 n17 c17]] rfl ⟨⟨_,rfl,load_agg aggInt hb20 [.bool s17,.slice A17 n17 c17] rfl (bq rfl) rfl⟩,trivial⟩ ?_))))
  exact⟨_,rfl,⟨_,_,_,_,rfl,((z17.updT hb19 u21)).cast (by rw [sg_true];omega)⟩,hw4⟩
 · 
  refine cw_region (mv 1 rfl (wl_cmp rfl rfl rfl false (lt_f (by omega)) (by decide) (ne_ (cw_false rfl (cw_skip (eo_then (sr (mv 1 rfl (wl_pureE rfl rfl (v:= .int .u64 (IntKind.u64.wrap n)) (v':= .int .u64 (((Int.natAbs n):Nat):Int)) (by decide) (by kernel_rfl) (by rw [of_pos5 h2 hn0]) (wl_bslice rfl rfl (by decide) (k:=1) (e:=67) [.int .u64 (((Int.natAbs n):Nat):Int)] (fun _=>by kernel_rfl) fun g23 v24 nb25=>?_))))))))))
  have o26:=O1.mk_ (x:=(Int.natAbs n)) (b:=w.heap.size) nb25 hw1.size
  have e27:=nb25.ext
  have hw2:=hw1.trans e27
  have L30:ln (sg false (Int.natAbs n))≤1:=by rw [ln_sg];exact (len_wd_w5 (show Int.natAbs n≤18446744073709551615 by omega))
  refine cl (vs:= [F0,.slice (some ⟨g23,0,none⟩) 1 1]) hw2 (g_ref5_made hw2.size (own1_wi o26 (show Int.natAbs n≤18446744073709551615 by omega)) (by decide)) rfl (by kernel_rfl) fun xr33 v31 r33 e32 hw3=>?_
  obtain⟨s34,A34,n34,c34,rfl,z34⟩:=r33
  have hb36:=(hb4.ext (e27.trans e32))
  refine so aggInt hb36 [.bool s34,.slice A34 n34 c34] hw3 ge5 rfl rfl rfl rfl fun v35 hb37 u38 hw4=>(ne_ (cw_ret (eo_ret [.agg #[.bool s34,.slice A34 n34 c34]] rfl ⟨⟨_,rfl,load_agg aggInt hb37 [.bool s34,.slice A34 n34 c34] rfl (bq rfl) rfl⟩,trivial⟩ ?_)))
  exact⟨_,rfl,⟨_,_,_,_,rfl,((z34.updT hb36 u38)).cast (by rw [sg_false];omega)⟩,hw4⟩
set_option maxHeartbeats 4000000 in
theorem g_ref5_Small {w:World}{sa:Bool}{Aa:Option Addr}{na ca:Nat}{x:Int}(hx:Zi w sa Aa na ca x) (la:na≤17179869183):
    Calls Tryz.prog 34 #[.agg #[.bool sa,.slice Aa na ca]] w (Gv w (T2 (Is (.int .i64 (smV x))) (Is (.int .i64 (smE x))))):=by
 have Lx:ln x≤17179869183:=Nat.le_trans hx.ln la
 refine sx_enter Tryz.func34 rfl (n:=33) rfl (bq rfl) (args:= [.agg #[.bool sa,.slice Aa na ca]]) (cw_keep [(0,.agg #[.bool sa,.slice Aa na ca])] ⟨rfl,trivial⟩ (sr (bx [.bool sa,.slice Aa na ca] (Ext.refl w) rfl rfl rfl fun g1 v2 hb4 ge5 e3 hw1=>(mv 2 rfl (ne_ (sr (lo aggInt hb4 [.bool sa,.slice Aa na ca] rfl rfl rfl (cl (vs:= [.agg #[.bool sa,.slice Aa na ca]]) hw1 (g_ref5_Least hw1.size (hx.ext hw1) (lx_ la rfl)) rfl (by kernel_rfl) fun xr8 v6 r8 e7 hw2=>?_))))))))
 obtain⟨s9,A9,n9,c9,rfl,z9⟩:=r8
 refine alq [F0,S0] hw2 (hb4.ext e7).lt (fun _=>by kernel_rfl) rfl fun g10 v11 hb13 ge14 q15 e12 hw3=>(so aggInt hb13 [.bool s9,.slice A9 n9 c9] hw3 ge14 rfl rfl rfl rfl fun v16 hb18 u19 hw4=>(ne_ (cw_seq (cw_seq ?_))))
 have hnl:n9=ln x:=(((z9.ext e12).updT hb13 u19)).len
 by_cases hxz:x=0
 · 
  have hn0:n9=0:=by rw [hnl,hxz];rfl
  refine cw_region (pf g10 1 rfl (by kernel_rfl) (wl_load rfl rfl (load_cell cellWords hb18 rfl) (by decide) (pu (v:= .int .i64 ((n9:Nat):Int)) rfl (by kernel_rfl) (wl_cmp rfl rfl rfl true (eq_t (by omega)) (by decide) (ne_ (cw_true rfl (sr (mv 2 rfl (ne_ (cw_ret (eo_thenR (eo_ret [I0,I0] rfl ⟨rfl,rfl,trivial⟩ ?_))))))))))))
  have hV:smV x=0:=by unfold smV;first | (rw [if_pos (by omega)];omega) | (rw [if_neg (by omega)])
  have hE:smE x=0:=by unfold smE;first | (rw [if_pos (by omega)]) | (rw [if_neg (by omega)])
  exact⟨_,rfl,⟨_,_,rfl,(show Value.int .i64 (0)=_ by rw [hV]),(show Value.int .i64 (0)=_ by rw [hE])⟩,hw4⟩
 · 
  have hn0:n9≠0:=fun e=>hxz (ln_eq_zero (by rw [←hnl,e]))
  by_cases hn1:1<n9
  · 
   have hbx:=small_big (hnl▸hn1)
   refine cw_region (pf g10 1 rfl (by kernel_rfl) (wl_load rfl rfl (load_cell cellWords hb18 rfl) (by decide) (pu (v:= .int .i64 ((n9:Nat):Int)) rfl (by kernel_rfl) (wl_cmp rfl rfl rfl false (eq_f (by omega)) (by decide) (ne_ (cw_false rfl (cw_skip (eo_then (cw_seq (sr (pf g10 1 rfl (by kernel_rfl) (wl_load rfl rfl (load_cell cellWords hb18 rfl) (by decide) (pu (v:= .int .i64 ((n9:Nat):Int)) rfl (by kernel_rfl) ?_)))))))))))))
   refine wl_cmp rfl rfl rfl true (gt_t (by omega)) (by decide) (ne_ (cw_true rfl (sr (mv 2 rfl (ne_ (cw_ret (eo_thenR (eo_ret [I0,.int .i64 5] rfl ⟨rfl,rfl,trivial⟩ ?_))))))))
   have hV:smV x=0:=by unfold smV;first | (rw [if_pos (by omega)];omega) | (rw [if_neg (by omega)])
   have hE:smE x=5:=by unfold smE;first | (rw [if_pos (by omega)]) | (rw [if_neg (by omega)])
   exact⟨_,rfl,⟨_,_,rfl,(show Value.int .i64 (0)=_ by rw [hV]),(show Value.int .i64 (5)=_ by rw [hE])⟩,hw4⟩
  · 
   have hn1e:n9=1:=by omega
   have hmw:=small_word (x:=x) (by rw [←hnl];exact hn1e)
   by_cases hx0:x<0
   · 
    obtain rfl:s9=true:=by rw [(((z9.ext e12).updT hb13 u19)).sgn];exact decide_eq_true hx0
    refine cw_region (pf g10 1 rfl (by kernel_rfl) (wl_load rfl rfl (load_cell cellWords hb18 rfl) (by decide) (pu (v:= .int .i64 ((n9:Nat):Int)) rfl (by kernel_rfl) (wl_cmp rfl rfl rfl false (eq_f (by omega)) (by decide) (ne_ (cw_false rfl (cw_skip (eo_then (cw_seq (sr (pf g10 1 rfl (by kernel_rfl) (wl_load rfl rfl (load_cell cellWords hb18 rfl) (by decide) (pu (v:= .int .i64 ((n9:Nat):Int)) rfl (by kernel_rfl) ?_)))))))))))))
    refine wl_cmp rfl rfl rfl false (gt_f (by omega)) (by decide) (ne_ (cw_false rfl (cw_skip (eo_then (sr (pf g10 1 rfl (by kernel_rfl) (wl_load rfl rfl (load_cell cellWords hb18 rfl) (by decide) ?_)))))))
    obtain⟨p9,hp9,hc9,hv9⟩:=(((z9.ext e12).updT hb13 u19)).rd.at (i:=0) (by omega)
    rw [hmw.1] at hc9
    refine wl_idx rfl rfl rfl un_u64 sz_u64 0 rfl (by omega) p9 hp9 (by decide) (wl_load rfl rfl (load_cell1 ag_u64 hc9) (by decide) (mv 1 rfl (ne_ (cw_seq (sr (pf g10 0 rfl (by kernel_rfl) (wl_load rfl rfl (load_cell cellBool hb18 rfl) (by decide) (ne_ (cw_true rfl (cw_seq (cw_seq ?_)))))))))))
    by_cases hov:Int.natAbs x>9223372036854775808
    · 
     refine cw_region (mv 1 rfl (wl_cmp rfl rfl rfl true (cb_gt_t (a:=Int.natAbs x) (b:=9223372036854775808) rfl rfl (by omega)) (by decide) (ne_ (cw_true rfl (sr (mv 2 rfl (ne_ (cw_ret (eo_thenR (eo_thenR (eo_ret [I0,.int .i64 5] rfl ⟨rfl,rfl,trivial⟩ ?_)))))))))))
     have hV:smV x=0:=by unfold smV;first | (rw [if_pos (by omega)];omega) | (rw [if_neg (by omega)])
     have hE:smE x=5:=by unfold smE;first | (rw [if_pos (by omega)]) | (rw [if_neg (by omega)])
     exact⟨_,rfl,⟨_,_,rfl,(show Value.int .i64 (0)=_ by rw [hV]),(show Value.int .i64 (5)=_ by rw [hE])⟩,hw4⟩
    · 
     refine cw_region (mv 1 rfl (wl_cmp rfl rfl rfl false (cb_gt_f (a:=Int.natAbs x) (b:=9223372036854775808) rfl rfl (by omega)) (by decide) (ne_ (cw_false rfl (cw_skip (eo_then (sr (mv 1 rfl (wl_ar rfl rfl rfl (((Int.natAbs x)-1:Nat):Int) (au_sub (a:=Int.natAbs x) (b:=1) rfl rfl (by omega) (by omega)) (by decide) (wl_pureE rfl rfl (v:= .int .i64 (IntKind.i64.wrap (((Int.natAbs x)-1:Nat):Int))) (v':= .int .i64 (((Int.natAbs x)-1:Nat):Int)) (by decide) (by kernel_rfl) (cv_i64 (by omega)) (wl_pureE rfl rfl (v:= .int .i64 (IntKind.i64.wrap (0-(((Int.natAbs x)-1:Nat):Int)))) (v':= .int .i64 (-(((Int.natAbs x)-1:Nat):Int))) (by decide) (by kernel_rfl) (neg_i64 (by omega) (by omega)) (wl_ar rfl rfl rfl ((-(((Int.natAbs x)-1:Nat):Int))-1) (ar_i64s rfl (by omega) (by omega)) (by decide) (mv 1 rfl ?_)))))))))))))
     refine mv 1 rfl (ne_ (cw_ret (eo_thenR (eo_ret [.int .i64 ((-(((Int.natAbs x)-1:Nat):Int))-1),I0] rfl ⟨rfl,rfl,trivial⟩ ?_))))
     have hV:smV x=(-(((Int.natAbs x)-1:Nat):Int))-1:=by unfold smV;first | (rw [if_pos (by omega)];omega) | (rw [if_neg (by omega)])
     have hE:smE x=0:=by unfold smE;first | (rw [if_pos (by omega)]) | (rw [if_neg (by omega)])
     exact⟨_,rfl,⟨_,_,rfl,(show Value.int .i64 ((-(((Int.natAbs x)-1:Nat):Int))-1)=_ by rw [hV]),(show Value.int .i64 (0)=_ by rw [hE])⟩,hw4⟩
   · 
    obtain rfl:s9=false:=by rw [(((z9.ext e12).updT hb13 u19)).sgn];exact decide_eq_false hx0
    refine cw_region (pf g10 1 rfl (by kernel_rfl) (wl_load rfl rfl (load_cell cellWords hb18 rfl) (by decide) (pu (v:= .int .i64 ((n9:Nat):Int)) rfl (by kernel_rfl) (wl_cmp rfl rfl rfl false (eq_f (by omega)) (by decide) (ne_ (cw_false rfl (cw_skip (eo_then (cw_seq (sr (pf g10 1 rfl (by kernel_rfl) (wl_load rfl rfl (load_cell cellWords hb18 rfl) (by decide) (pu (v:= .int .i64 ((n9:Nat):Int)) rfl (by kernel_rfl) ?_)))))))))))))
    refine wl_cmp rfl rfl rfl false (gt_f (by omega)) (by decide) (ne_ (cw_false rfl (cw_skip (eo_then (sr (pf g10 1 rfl (by kernel_rfl) (wl_load rfl rfl (load_cell cellWords hb18 rfl) (by decide) ?_)))))))
    obtain⟨p9,hp9,hc9,hv9⟩:=(((z9.ext e12).updT hb13 u19)).rd.at (i:=0) (by omega)
    rw [hmw.1] at hc9
    refine wl_idx rfl rfl rfl un_u64 sz_u64 0 rfl (by omega) p9 hp9 (by decide) (wl_load rfl rfl (load_cell1 ag_u64 hc9) (by decide) (mv 1 rfl (ne_ (cw_seq (sr (pf g10 0 rfl (by kernel_rfl) (wl_load rfl rfl (load_cell cellBool hb18 rfl) (by decide) (ne_ (cw_false rfl (cw_skip (eo_then (cw_seq (cw_seq ?_)))))))))))))
    by_cases hov:Int.natAbs x≥9223372036854775808
    · 
     refine cw_region (mv 1 rfl (wl_cmp rfl rfl rfl true (cb_ge_t (a:=Int.natAbs x) (b:=9223372036854775808) rfl rfl (by omega)) (by decide) (ne_ (cw_true rfl (sr (mv 2 rfl (ne_ (cw_ret (eo_thenR (eo_ret [I0,.int .i64 5] rfl ⟨rfl,rfl,trivial⟩ ?_))))))))))
     have hV:smV x=0:=by unfold smV;first | (rw [if_pos (by omega)];omega) | (rw [if_neg (by omega)])
     have hE:smE x=5:=by unfold smE;first | (rw [if_pos (by omega)]) | (rw [if_neg (by omega)])
     exact⟨_,rfl,⟨_,_,rfl,(show Value.int .i64 (0)=_ by rw [hV]),(show Value.int .i64 (5)=_ by rw [hE])⟩,hw4⟩
    · 
     refine cw_region (mv 1 rfl (wl_cmp rfl rfl rfl false (cb_ge_f (a:=Int.natAbs x) (b:=9223372036854775808) rfl rfl (by omega)) (by decide) (ne_ (cw_false rfl (cw_skip (eo_then (sr (mv 1 rfl (wl_pureE rfl rfl (v:= .int .i64 (IntKind.i64.wrap ((Int.natAbs x:Nat):Int))) (v':= .int .i64 ((Int.natAbs x:Nat):Int)) (by decide) (by kernel_rfl) (cv_i64 (by omega)) (mv 2 rfl (ne_ (cw_ret (eo_ret [.int .i64 ((Int.natAbs x:Nat):Int),I0] rfl ⟨rfl,rfl,trivial⟩ ?_)))))))))))))
     have hV:smV x=((Int.natAbs x:Nat):Int):=by unfold smV;first | (rw [if_pos (by omega)];omega) | (rw [if_neg (by omega)])
     have hE:smE x=0:=by unfold smE;first | (rw [if_pos (by omega)]) | (rw [if_neg (by omega)])
     exact⟨_,rfl,⟨_,_,rfl,(show Value.int .i64 (((Int.natAbs x:Nat):Int))=_ by rw [hV]),(show Value.int .i64 (0)=_ by rw [hE])⟩,hw4⟩
def dotK (zs ys:List Int):Nat→Int
 | 0=>0
 | k+1=>zs.getD k 0*ys.getD k 0+dotK zs ys k
theorem ln_dotK {zs ys:List Int}{N:Nat}(h:∀i,ln (zs.getD i 0)≤N) (h2:∀i,ln (ys.getD i 0)≤N) (k:Nat):ln (dotK zs ys k)≤2*N+k:=by
 induction k with
 | zero=>exact Nat.zero_le _
 | succ k ih=>exact Nat.le_trans (ln_add (ln_mul (h k) (h2 k)) ih) (by omega)
theorem neg_pow5 (a:Int):∀k:Nat,(-a)^(2*k)=a^(2*k)
 | 0=>by rw [Nat.mul_zero,Int.pow_zero,Int.pow_zero]
 | k+1=>by rw [show 2*(k+1)=2*k+1+1 by omega,Int.pow_succ,Int.pow_succ,Int.pow_succ,Int.pow_succ,neg_pow5 a k,Int.mul_neg,Int.mul_neg,Int.neg_mul,Int.neg_neg]
theorem sg_pow_t {m n:Nat}(h:n%2=1):sg true (m^n)=sg true m^n:=by
 rw [sg_true,sg_true]
 obtain⟨k,rfl⟩:∃k,n=2*k+1:=⟨n/2,by omega⟩
 rw [Int.pow_succ,neg_pow5,Int.mul_neg,←Int.pow_succ,Int.natCast_pow]
theorem sg_pow_e {m n:Nat}(h:¬n%2=1):sg false (m^n)=sg true m^n:=by
 rw [sg_true,sg_false]
 obtain⟨k,rfl⟩:∃k,n=2*k:=⟨n/2,by omega⟩
 rw [neg_pow5,Int.natCast_pow]
theorem sg_pow_f {m n:Nat}:sg false (m^n)=sg false m^n:=by rw [sg_false,sg_false,Int.natCast_pow]
set_option maxHeartbeats 4000000 in
theorem g_ref5_Sum {w:World}{b:Nat}(hb:b≤w.heap.size){A:Option Addr}{n cap:Nat}{zs:List Int}{ms:List Nat}(hl:Zl w A n cap zs ms) (hn:n≤1048576) (hmb:∀i,ms.getD i 0≤16777216):
    Calls Tryz.prog 44 #[.slice A n cap] w (Gv w (ZR b (sumL zs))):=by
 have hln:∀i,ln (zs.getD i 0)≤16777216:=ln_getD5 hl hmb
 refine sx_enter Tryz.func44 rfl (n:=19) rfl (bq rfl) (args:= [.slice A n cap]) (cw_keep [(0,.slice A n cap)] ⟨rfl,trivial⟩ (sr (al [F0,S0] (Ext.refl w) (fun _=>by kernel_rfl) rfl fun g1 v2 hb4 ge5 e3 hw1=>(ne_ (sr (pu (v:= .agg #[F0,S0]) rfl (by kernel_rfl) (alq [F0,S0] hw1 hb4.lt (fun _=>by kernel_rfl) rfl fun g6 v7 hb9 ge10 q11 e8 hw2=>(so aggInt hb9 [F0,S0] hw2 ge10 rfl rfl rfl rfl fun v12 hb14 u15 hw3=>(ne_ (cw_seq (sr (mv 1 rfl (wl_nil ?_)))))))))))))
 refine eo_then (cw_block ?_)
 refine cw_loop (T:=World×Nat×ZC)
  (fun⟨wr,k,kg⟩=> [(0,.slice A n cap),(2,.pointer (some ⟨g1,0,none⟩)),(3,.pointer (some ⟨g6,0,none⟩)),(4,.int .i64 ((k:Nat):Int))])
  (fun⟨wr,k,kg⟩=>wr)
  (fun⟨wr,k,kg⟩=>(Ext w wr)∧(k≤n)∧(Bk wr g1 26 [F0,S0])∧(Bk wr g6 26 [.bool kg.s,.slice kg.A kg.n kg.c])∧(Zr wr w.heap.size kg.s kg.A kg.n kg.c (sumL (zs.take k))))
  (fun⟨wr,k,kg⟩=>n-k)
  (⟨v12,0,⟨false,none,0,0⟩⟩:World×Nat×ZC) ⟨hw3,Nat.zero_le _,((hb4.ext e8).updN u15 (by omega)),hb14,Zr.zero⟩ rfl ⟨rfl,rfl,rfl,rfl,trivial⟩ ?_
 rintro⟨wr,k,kg⟩ ⟨hw1,hk,b_2,b_3,zg⟩
 refine cw_re [(0,.slice A n cap),(2,.pointer (some ⟨g1,0,none⟩)),(3,.pointer (some ⟨g6,0,none⟩)),(4,.int .i64 ((k:Nat):Int))] wr rfl ⟨rfl,rfl,rfl,rfl,trivial⟩ ?_
 have hsl:ln (sumL (zs.take k))≤33554432:=Nat.le_trans (ln_sumL hln k) (by omega)
 refine cw_seq (cw_seq ?_)
 by_cases hkn:k<n
 · 
  refine cw_region (mv 2 rfl (pu (v:= .int .i64 ((n:Nat):Int)) rfl (by kernel_rfl) (wl_cmp rfl rfl rfl true (cb_lt_t (a:=k) (b:=n) rfl rfl (by omega)) (by decide) (ne_ (cw_true rfl (cw_skip (eo_then (cw_seq (cw_block ?_)))))))))
  obtain⟨pz17,sz17,Bz17,cz17,hpz17,ldz17,ez17⟩:=hl.at (i:=k) (by omega)
  have L18:ln ((sumL (zs.take k))+(zs.getD k 0))≤33554433:=Nat.le_trans (ln_add hsl (Nat.le_trans ez17.ln (hmb k))) (by decide)
  refine cw_draw mix 6 [] [Is (.agg #[.bool kg.s,.slice kg.A kg.n kg.c]),Is (.slice A n cap),Is (.int .i64 ((k:Nat):Int)),Is (.pointer (some pz17)),Is (.agg #[.bool sz17,.slice Bz17 (ms.getD k 0) cz17]),ZR w.heap.size ((sumL (zs.take k))+(zs.getD k 0))] [[],[],[],[1,2],[3],[0,4]] [[],[],[],[1,2],[1,2,3],[0,1,2,3,4],[0,1,2,3,4,5]] rfl
   (obs_cons rfl rfl (hob rfl rfl ?_) (obs_cons rfl rfl (hob rfl rfl ?_) (obs_cons rfl rfl (hob rfl rfl ?_) (obs_cons rfl rfl (hob rfl rfl ?_) (obs_cons rfl rfl (hob rfl rfl ?_) (obs_cons rfl rfl (hob rfl rfl ?_) obs_nil)))))) ?_
  · 
   exact fun _ e21=>deps_nil (lo aggInt (b_3.ext e21) [.bool kg.s,.slice kg.A kg.n kg.c] rfl rfl rfl (pi_done rfl (Ext.refl _) rfl))
  · 
   exact fun _ _=>deps_nil (mv 1 rfl (pi_done rfl (Ext.refl _) rfl))
  · 
   exact fun _ _=>deps_nil (mv 1 rfl (pi_done rfl (Ext.refl _) rfl))
  · 
   exact fun _ _=>dk rfl rfl (dk rfl rfl (deps_nil (wl_idx rfl rfl rfl elemI aggInt.size k rfl (by omega) pz17 hpz17 (by decide) (pi_done rfl (Ext.refl _) rfl))))
  · 
   intro v38 e39
   have hw2:=hw1.trans e39
   refine dk rfl rfl (deps_nil (wl_load rfl rfl (ldz17 _ hw2 _ _ aggInt) (by decide) ?_))
   exact pi_done rfl (Ext.refl _) rfl
  · 
   intro v45 e46
   have hw2:=hw1.trans e46
   refine dk rfl rfl (dk rfl rfl (deps_nil ?_))
   have L57:ln ((sumL (zs.take k))+(zs.getD k 0))≤33554433:=Nat.le_trans (ln_add hsl (Nat.le_trans ez17.ln (hmb k))) (by decide)
   refine cl (vs:= [.agg #[.bool kg.s,.slice kg.A kg.n kg.c],.agg #[.bool sz17,.slice Bz17 (ms.getD k 0) cz17]]) hw2 (g_ref5_Add hw2.size (zg.ext e46).zi (zg.le (lx_ hsl rfl)) (ez17.ext hw2) (Nat.le_trans (hmb k) (by decide))) rfl (by kernel_rfl) fun xr60 v58 r60 e59 hw3=>?_
   obtain⟨s61,A61,n61,c61,rfl,z61⟩:=r60
   exact pi_done rfl e59 ⟨_,_,_,_,rfl,z61⟩
  · 
   intro v62 e63
   have hw2:=hw1.trans e63
   refine dk rfl rfl (dk rfl rfl (dk rfl rfl (dk rfl rfl (dk rfl rfl (deps_cons rfl rfl fun x89 y90 h91 e92 f93=>?_)))))
   obtain⟨s94,A94,n94,c94,rfl,z94⟩:=h91
   have z94:=z94.ext f93
   refine deps_nil ?_
   have hb96:=(b_3.ext e63)
   refine so aggInt hb96 [.bool s94,.slice A94 n94 c94] hw2 ge10 rfl rfl rfl rfl fun v95 hb97 u98 hw3=>(wl_nil (eo_np (eo_block_normal (eo_then (cw_region (mv 1 rfl (wl_ar rfl rfl rfl ((k+1:Nat):Int) (ai_add (a:=k) (b:=1) rfl rfl (by omega)) (by decide) (mv 1 rfl (wl_nil (eo_round (⟨v95,k+1,⟨s94,A94,n94,c94⟩⟩:World×Nat×ZC) ⟨hw3,(by omega),((b_2.ext e63).updN u98 (by omega)),hb97,((z94.updT hb96 u98)).cast (sumL_succ (by rw [hl.len];omega))⟩ (show n-(k+1)<n-k by omega) rfl ⟨rfl,rfl,rfl,rfl,trivial⟩))))))))))
 · 
  refine cw_region (mv 2 rfl (pu (v:= .int .i64 ((n:Nat):Int)) rfl (by kernel_rfl) (wl_cmp rfl rfl rfl false (cb_lt_f (a:=k) (b:=n) rfl rfl (by omega)) (by decide) (ne_ (cw_false rfl (cw_exit (eo_thenX (eo_loopX (eo_block_here (eo_then (sr (lo aggInt b_3 [.bool kg.s,.slice kg.A kg.n kg.c] rfl rfl rfl ?_))))))))))))
  have hb101:=b_2
  refine so aggInt hb101 [.bool kg.s,.slice kg.A kg.n kg.c] hw1 ge5 rfl rfl rfl rfl fun v100 hb102 u103 hw2=>(ne_ (cw_ret (eo_ret [.agg #[.bool kg.s,.slice kg.A kg.n kg.c]] rfl ⟨⟨_,rfl,load_agg aggInt hb102 [.bool kg.s,.slice kg.A kg.n kg.c] rfl (bq rfl) rfl⟩,trivial⟩ ?_)))
  have hkn2:k=n:=by omega
  exact⟨_,rfl,⟨_,_,_,_,rfl,(((zg.updT hb101 u103)).cast (show sumL (zs.take k)=sumL zs by rw [hkn2,List.take_of_length_le (by rw [hl.len];exact Nat.le_refl _)])).mono hb⟩,hw2⟩
set_option maxHeartbeats 4000000 in
theorem g_ref5_Dot {w:World}{b:Nat}(hb:b≤w.heap.size){A C:Option Addr}{n cap cap':Nat}{zs ys:List Int}{ms ms2:List Nat}(hl:Zl w A n cap zs ms) (hn:n≤1048576) (hmb:∀i,ms.getD i 0≤1048576) (hl2:Zl w C n cap' ys ms2) (hmb2:∀i,ms2.getD i 0≤1048576):
    Calls Tryz.prog 45 #[.slice A n cap,.slice C n cap'] w (Gv w (T2 (ZR b (dotK zs ys n)) (Is (.int .i64 0)))):=by
 have hln:∀i,ln (zs.getD i 0)≤1048576:=ln_getD5 hl hmb
 have hln2:∀i,ln (ys.getD i 0)≤1048576:=ln_getD5 hl2 hmb2
 refine sx_enter Tryz.func45 rfl (n:=32) rfl (bq rfl) (args:= [.slice A n cap,.slice C n cap']) (cw_keep [(0,.slice A n cap),(1,.slice C n cap')] ⟨rfl,rfl,trivial⟩ (sr (al [F0,S0] (Ext.refl w) (fun _=>by kernel_rfl) rfl fun g1 v2 hb4 ge5 e3 hw1=>(mv 1 rfl (ne_ (cw_seq (sr (mv 1 rfl (pu (v:= .int .i64 ((n:Nat):Int)) rfl (by kernel_rfl) (mv 1 rfl (pu (v:= .int .i64 ((n:Nat):Int)) rfl (by kernel_rfl) (wl_cmp rfl rfl rfl false (cb_ne_f (a:=n) (b:=n) rfl rfl (by omega)) (by decide) (wl_nil ?_)))))))))))))
 refine eo_then (cw_false rfl (cw_skip (eo_then (sr (pu (v:= .agg #[F0,S0]) rfl (by kernel_rfl) (alq [F0,S0] hw1 hb4.lt (fun _=>by kernel_rfl) rfl fun g6 v7 hb9 ge10 q11 e8 hw2=>(so aggInt hb9 [F0,S0] hw2 ge10 rfl rfl rfl rfl fun v12 hb14 u15 hw3=>(ne_ (cw_seq (sr (mv 1 rfl (ne_ (cw_block ?_)))))))))))))
 refine cw_loop (T:=World×Nat×ZC)
  (fun⟨wr,k,kg⟩=> [(0,.slice A n cap),(1,.slice C n cap'),(4,.pointer (some ⟨g1,0,none⟩)),(6,.pointer (some ⟨g6,0,none⟩)),(7,.int .i64 ((k:Nat):Int))])
  (fun⟨wr,k,kg⟩=>wr)
  (fun⟨wr,k,kg⟩=>(Ext w wr)∧(k≤n)∧(Bk wr g1 26 [F0,S0])∧(Bk wr g6 26 [.bool kg.s,.slice kg.A kg.n kg.c])∧(Zr wr w.heap.size kg.s kg.A kg.n kg.c (dotK zs ys k)))
  (fun⟨wr,k,kg⟩=>n-k)
  (⟨v12,0,⟨false,none,0,0⟩⟩:World×Nat×ZC) ⟨hw3,Nat.zero_le _,((hb4.ext e8).updN u15 (by omega)),hb14,Zr.zero⟩ rfl ⟨rfl,rfl,rfl,rfl,rfl,trivial⟩ ?_
 rintro⟨wr,k,kg⟩ ⟨hw1,hk,b_2,b_3,zg⟩
 refine cw_re [(0,.slice A n cap),(1,.slice C n cap'),(4,.pointer (some ⟨g1,0,none⟩)),(6,.pointer (some ⟨g6,0,none⟩)),(7,.int .i64 ((k:Nat):Int))] wr rfl ⟨rfl,rfl,rfl,rfl,rfl,trivial⟩ ?_
 have hsl:ln (dotK zs ys k)≤4194304:=Nat.le_trans (ln_dotK hln hln2 k) (by omega)
 refine cw_seq (cw_seq ?_)
 by_cases hkn:k<n
 · 
  refine cw_region (mv 2 rfl (pu (v:= .int .i64 ((n:Nat):Int)) rfl (by kernel_rfl) (wl_cmp rfl rfl rfl true (cb_lt_t (a:=k) (b:=n) rfl rfl (by omega)) (by decide) (ne_ (cw_true rfl (cw_skip (eo_then (cw_seq (cw_block ?_)))))))))
  obtain⟨pz17,sz17,Bz17,cz17,hpz17,ldz17,ez17⟩:=hl.at (i:=k) (by omega)
  obtain⟨pz18,sz18,Bz18,cz18,hpz18,ldz18,ez18⟩:=hl2.at (i:=k) (by omega)
  have L19:ln ((zs.getD k 0)*(ys.getD k 0)+(dotK zs ys k))≤4194305:=Nat.le_trans (ln_add (ln_mul (Nat.le_trans ez17.ln (hmb k)) (Nat.le_trans ez18.ln (hmb2 k))) hsl) (by decide)
  refine cw_draw mix 10 [] [Is (.slice A n cap),Is (.int .i64 ((k:Nat):Int)),Is (.pointer (some pz17)),Is (.agg #[.bool sz17,.slice Bz17 (ms.getD k 0) cz17]),Is (.slice C n cap'),Is (.int .i64 ((k:Nat):Int)),Is (.pointer (some pz18)),Is (.agg #[.bool sz18,.slice Bz18 (ms2.getD k 0) cz18]),Is (.agg #[.bool kg.s,.slice kg.A kg.n kg.c]),ZR w.heap.size ((zs.getD k 0)*(ys.getD k 0)+(dotK zs ys k))] [[],[],[0,1],[2],[],[],[4,5],[6],[],[3,7,8]] [[],[],[0,1],[0,1,2],[],[],[4,5],[4,5,6],[],[0,1,2,3,4,5,6,7,8],[0,1,2,3,4,5,6,7,8,9]] rfl
   (obs_cons rfl rfl (hob rfl rfl ?_) (obs_cons rfl rfl (hob rfl rfl ?_) (obs_cons rfl rfl (hob rfl rfl ?_) (obs_cons rfl rfl (hob rfl rfl ?_) (obs_cons rfl rfl (hob rfl rfl ?_) (obs_cons rfl rfl (hob rfl rfl ?_) (obs_cons rfl rfl (hob rfl rfl ?_) (obs_cons rfl rfl (hob rfl rfl ?_) (obs_cons rfl rfl (hob rfl rfl ?_) (obs_cons rfl rfl (hob rfl rfl ?_) obs_nil)))))))))) ?_
  · 
   exact fun _ _=>deps_nil (mv 1 rfl (pi_done rfl (Ext.refl _) rfl))
  · 
   exact fun _ _=>deps_nil (mv 1 rfl (pi_done rfl (Ext.refl _) rfl))
  · 
   exact fun _ _=>dk rfl rfl (dk rfl rfl (deps_nil (wl_idx rfl rfl rfl elemI aggInt.size k rfl (by omega) pz17 hpz17 (by decide) (pi_done rfl (Ext.refl _) rfl))))
  · 
   intro v37 e38
   have hw2:=hw1.trans e38
   refine dk rfl rfl (deps_nil (wl_load rfl rfl (ldz17 _ hw2 _ _ aggInt) (by decide) ?_))
   exact pi_done rfl (Ext.refl _) rfl
  · 
   exact fun _ _=>deps_nil (mv 1 rfl (pi_done rfl (Ext.refl _) rfl))
  · 
   exact fun _ _=>deps_nil (mv 1 rfl (pi_done rfl (Ext.refl _) rfl))
  · 
   exact fun _ _=>dk rfl rfl (dk rfl rfl (deps_nil (wl_idx rfl rfl rfl elemI aggInt.size k rfl (by omega) pz18 hpz18 (by decide) (pi_done rfl (Ext.refl _) rfl))))
  · 
   intro v60 e61
   have hw2:=hw1.trans e61
   refine dk rfl rfl (deps_nil (wl_load rfl rfl (ldz18 _ hw2 _ _ aggInt) (by decide) ?_))
   exact pi_done rfl (Ext.refl _) rfl
  · 
   exact fun _ e68=>deps_nil (lo aggInt (b_3.ext e68) [.bool kg.s,.slice kg.A kg.n kg.c] rfl rfl rfl (pi_done rfl (Ext.refl _) rfl))
  · 
   intro v69 e70
   have hw2:=hw1.trans e70
   refine dk rfl rfl (dk rfl rfl (dk rfl rfl (deps_nil ?_)))
   have L86:ln ((zs.getD k 0)*(ys.getD k 0)+(dotK zs ys k))≤4194305:=Nat.le_trans (ln_add (ln_mul (Nat.le_trans ez17.ln (hmb k)) (Nat.le_trans ez18.ln (hmb2 k))) hsl) (by decide)
   refine cl (vs:= [.agg #[.bool sz17,.slice Bz17 (ms.getD k 0) cz17],.agg #[.bool sz18,.slice Bz18 (ms2.getD k 0) cz18],.agg #[.bool kg.s,.slice kg.A kg.n kg.c]]) hw2 (g_ref5_MulAdd hw2.size (ez17.ext hw2) (Nat.le_trans (hmb k) (by decide)) (ez18.ext hw2) (Nat.le_trans (hmb2 k) (by decide)) (zg.ext e70).zi (zg.le (lx_ hsl rfl))) rfl (by kernel_rfl) fun xr89 v87 r89 e88 hw3=>?_
   obtain⟨s90,A90,n90,c90,rfl,z90⟩:=r89
   exact pi_done rfl e88 ⟨_,_,_,_,rfl,z90⟩
  · 
   intro v91 e92
   have hw2:=hw1.trans e92
   refine dk rfl rfl (dk rfl rfl (dk rfl rfl (dk rfl rfl (dk rfl rfl (dk rfl rfl (dk rfl rfl (dk rfl rfl (dk rfl rfl (deps_cons rfl rfl fun x138 y139 h140 e141 f142=>?_)))))))))
   obtain⟨s143,A143,n143,c143,rfl,z143⟩:=h140
   have z143:=z143.ext f142
   refine deps_nil ?_
   have hb145:=(b_3.ext e92)
   refine so aggInt hb145 [.bool s143,.slice A143 n143 c143] hw2 ge10 rfl rfl rfl rfl fun v144 hb146 u147 hw3=>(wl_nil (eo_np (eo_block_normal (eo_then (cw_region (mv 1 rfl (wl_ar rfl rfl rfl ((k+1:Nat):Int) (ai_add (a:=k) (b:=1) rfl rfl (by omega)) (by decide) (mv 1 rfl (wl_nil (eo_round (⟨v144,k+1,⟨s143,A143,n143,c143⟩⟩:World×Nat×ZC) ⟨hw3,(by omega),((b_2.ext e92).updN u147 (by omega)),hb146,((z143.updT hb145 u147)).cast rfl⟩ (show n-(k+1)<n-k by omega) rfl ⟨rfl,rfl,rfl,rfl,rfl,trivial⟩))))))))))
 · 
  refine cw_region (mv 2 rfl (pu (v:= .int .i64 ((n:Nat):Int)) rfl (by kernel_rfl) (wl_cmp rfl rfl rfl false (cb_lt_f (a:=k) (b:=n) rfl rfl (by omega)) (by decide) (ne_ (cw_false rfl (cw_exit (eo_thenX (eo_loopX (eo_block_here (eo_then (sr (lo aggInt b_3 [.bool kg.s,.slice kg.A kg.n kg.c] rfl rfl rfl ?_))))))))))))
  have hb150:=b_2
  refine so aggInt hb150 [.bool kg.s,.slice kg.A kg.n kg.c] hw1 ge5 rfl rfl rfl rfl fun v149 hb151 u152 hw2=>(mv 1 rfl (ne_ (cw_ret (eo_ret [.agg #[.bool kg.s,.slice kg.A kg.n kg.c],I0] rfl ⟨⟨_,rfl,load_agg aggInt hb151 [.bool kg.s,.slice kg.A kg.n kg.c] rfl (bq rfl) rfl⟩,rfl,trivial⟩ ?_))))
  have hkn2:k=n:=by omega
  exact⟨_,rfl,⟨_,_,rfl,⟨_,_,_,_,rfl,(((zg.updT hb150 u152)).cast (show dotK zs ys k=dotK zs ys n by rw [hkn2])).mono hb⟩,rfl⟩,hw2⟩
set_option maxHeartbeats 4000000 in
theorem g_ref5_Dot_bad {w:World}{b:Nat}(hb:b≤w.heap.size){A C:Option Addr}{n m cap cap':Nat}{zs ys:List Int}{ms ms2:List Nat}(hl:Zl w A n cap zs ms) (hn:n≤1048576) (hmb:∀i,ms.getD i 0≤1048576) (hl2:Zl w C m cap' ys ms2) (hmb2:∀i,ms2.getD i 0≤1048576) (hne:n≠m):
    Calls Tryz.prog 45 #[.slice A n cap,.slice C m cap'] w (Gv w (T2 (ZR b 0) (Is (.int .i64 2)))):=by
 refine sx_enter Tryz.func45 rfl (n:=32) rfl (bq rfl) (args:= [.slice A n cap,.slice C m cap']) (cw_keep [(0,.slice A n cap),(1,.slice C m cap')] ⟨rfl,rfl,trivial⟩ (sr (al [F0,S0] (Ext.refl w) (fun _=>by kernel_rfl) rfl fun g1 v2 hb4 ge5 e3 hw1=>(mv 1 rfl (ne_ (cw_seq (sr (mv 1 rfl (pu (v:= .int .i64 ((n:Nat):Int)) rfl (by kernel_rfl) (mv 1 rfl (pu (v:= .int .i64 ((m:Nat):Int)) rfl (by kernel_rfl) (wl_cmp rfl rfl rfl true (cb_ne_t (a:=n) (b:=m) rfl rfl (by omega)) (by decide) (wl_nil ?_)))))))))))))
 refine eo_then (cw_true rfl (sr (pu (v:= .agg #[F0,S0]) rfl (by kernel_rfl) (so aggInt hb4 [F0,S0] hw1 ge5 rfl rfl rfl rfl fun v6 hb8 u9 hw2=>(mv 1 rfl (ne_ (cw_ret (eo_thenR (eo_ret [.agg #[F0,S0],.int .i64 2] rfl ⟨⟨_,rfl,load_agg aggInt hb8 [F0,S0] rfl (bq rfl) rfl⟩,rfl,trivial⟩ ?_)))))))))
 exact⟨_,rfl,⟨_,_,rfl,⟨_,_,_,_,rfl,(((Zr.zero (w:=v2) (base:=w.heap.size)).updT hb4 u9)).mono hb⟩,rfl⟩,hw2⟩
set_option maxHeartbeats 4000000 in
theorem g_zint_Dot {w:World}{b:Nat}(hb:b≤w.heap.size){A C:Option Addr}{n cap cap':Nat}{zs ys:List Int}{ms ms2:List Nat}(hl:Zl w A n cap zs ms) (hn:n≤1048576) (hmb:∀i,ms.getD i 0≤1048576) (hl2:Zl w C n cap' ys ms2) (hmb2:∀i,ms2.getD i 0≤1048576):
    Calls Tryz.prog 60 #[.slice A n cap,.slice C n cap'] w (Gv w (T2 (ZR b (dotK zs ys n)) (Is (.int .i64 0)))):=by
 have hln:∀i,ln (zs.getD i 0)≤1048576:=ln_getD5 hl hmb
 have hln2:∀i,ln (ys.getD i 0)≤1048576:=ln_getD5 hl2 hmb2
 refine sx_enter Tryz.func60 rfl (n:=32) rfl (bq rfl) (args:= [.slice A n cap,.slice C n cap']) (cw_keep [(0,.slice A n cap),(1,.slice C n cap')] ⟨rfl,rfl,trivial⟩ (sr (al [F0,S0] (Ext.refl w) (fun _=>by kernel_rfl) rfl fun g1 v2 hb4 ge5 e3 hw1=>(mv 1 rfl (ne_ (cw_seq (sr (mv 1 rfl (pu (v:= .int .i64 ((n:Nat):Int)) rfl (by kernel_rfl) (mv 1 rfl (pu (v:= .int .i64 ((n:Nat):Int)) rfl (by kernel_rfl) (wl_cmp rfl rfl rfl false (cb_ne_f (a:=n) (b:=n) rfl rfl (by omega)) (by decide) (wl_nil ?_)))))))))))))
 refine eo_then (cw_false rfl (cw_skip (eo_then (sr (pu (v:= .agg #[F0,S0]) rfl (by kernel_rfl) (alq [F0,S0] hw1 hb4.lt (fun _=>by kernel_rfl) rfl fun g6 v7 hb9 ge10 q11 e8 hw2=>(so aggInt hb9 [F0,S0] hw2 ge10 rfl rfl rfl rfl fun v12 hb14 u15 hw3=>(ne_ (cw_seq (sr (mv 1 rfl (pu (v:= .int .i64 ((n:Nat):Int)) rfl (by kernel_rfl) (mv 1 rfl ?_)))))))))))))
 refine ne_ (cw_block ?_)
 refine cw_loop (T:=World×Nat×ZC)
  (fun⟨wr,k,kg⟩=> [(0,.slice A n cap),(1,.slice C n cap'),(4,.pointer (some ⟨g1,0,none⟩)),(6,.pointer (some ⟨g6,0,none⟩)),(16,.int .i64 ((n:Nat):Int)),(17,.int .i64 ((k:Nat):Int))])
  (fun⟨wr,k,kg⟩=>wr)
  (fun⟨wr,k,kg⟩=>(Ext w wr)∧(k≤n)∧(Bk wr g1 26 [F0,S0])∧(Bk wr g6 26 [.bool kg.s,.slice kg.A kg.n kg.c])∧(Zr wr w.heap.size kg.s kg.A kg.n kg.c (dotK zs ys k)))
  (fun⟨wr,k,kg⟩=>n-k)
  (⟨v12,0,⟨false,none,0,0⟩⟩:World×Nat×ZC) ⟨hw3,Nat.zero_le _,((hb4.ext e8).updN u15 (by omega)),hb14,Zr.zero⟩ rfl ⟨rfl,rfl,rfl,rfl,rfl,rfl,trivial⟩ ?_
 rintro⟨wr,k,kg⟩ ⟨hw1,hk,b_2,b_3,zg⟩
 refine cw_re [(0,.slice A n cap),(1,.slice C n cap'),(4,.pointer (some ⟨g1,0,none⟩)),(6,.pointer (some ⟨g6,0,none⟩)),(16,.int .i64 ((n:Nat):Int)),(17,.int .i64 ((k:Nat):Int))] wr rfl ⟨rfl,rfl,rfl,rfl,rfl,rfl,trivial⟩ ?_
 have hsl:ln (dotK zs ys k)≤4194304:=Nat.le_trans (ln_dotK hln hln2 k) (by omega)
 refine cw_seq ?_
 by_cases hkn:k<n
 · 
  refine cw_region (wl_cmp rfl rfl rfl true (cb_lt_t (a:=k) (b:=n) rfl rfl (by omega)) (by decide) (ne_ (cw_seq (cw_true rfl (cw_skip (eo_then (cw_seq (cw_block (sr (mv 2 rfl (ne_ ?_)))))))))))
  obtain⟨pz17,sz17,Bz17,cz17,hpz17,ldz17,ez17⟩:=hl.at (i:=k) (by omega)
  obtain⟨pz18,sz18,Bz18,cz18,hpz18,ldz18,ez18⟩:=hl2.at (i:=k) (by omega)
  have L19:ln ((zs.getD k 0)*(ys.getD k 0)+(dotK zs ys k))≤4194305:=Nat.le_trans (ln_add (ln_mul (Nat.le_trans ez17.ln (hmb k)) (Nat.le_trans ez18.ln (hmb2 k))) hsl) (by decide)
  refine cw_draw mix 10 [] [Is (.slice A n cap),Is (.int .i64 ((k:Nat):Int)),Is (.pointer (some pz17)),Is (.agg #[.bool sz17,.slice Bz17 (ms.getD k 0) cz17]),Is (.slice C n cap'),Is (.int .i64 ((k:Nat):Int)),Is (.pointer (some pz18)),Is (.agg #[.bool sz18,.slice Bz18 (ms2.getD k 0) cz18]),Is (.agg #[.bool kg.s,.slice kg.A kg.n kg.c]),ZR w.heap.size ((zs.getD k 0)*(ys.getD k 0)+(dotK zs ys k))] [[],[],[0,1],[2],[],[],[4,5],[6],[],[3,7,8]] [[],[],[0,1],[0,1,2],[],[],[4,5],[4,5,6],[],[0,1,2,3,4,5,6,7,8],[0,1,2,3,4,5,6,7,8,9]] rfl
   (obs_cons rfl rfl (hob rfl rfl ?_) (obs_cons rfl rfl (hob rfl rfl ?_) (obs_cons rfl rfl (hob rfl rfl ?_) (obs_cons rfl rfl (hob rfl rfl ?_) (obs_cons rfl rfl (hob rfl rfl ?_) (obs_cons rfl rfl (hob rfl rfl ?_) (obs_cons rfl rfl (hob rfl rfl ?_) (obs_cons rfl rfl (hob rfl rfl ?_) (obs_cons rfl rfl (hob rfl rfl ?_) (obs_cons rfl rfl (hob rfl rfl ?_) obs_nil)))))))))) ?_
  · 
   exact fun _ _=>deps_nil (mv 1 rfl (pi_done rfl (Ext.refl _) rfl))
  · 
   exact fun _ _=>deps_nil (mv 1 rfl (pi_done rfl (Ext.refl _) rfl))
  · 
   exact fun _ _=>dk rfl rfl (dk rfl rfl (deps_nil (wl_idx rfl rfl rfl elemI aggInt.size k rfl (by omega) pz17 hpz17 (by decide) (pi_done rfl (Ext.refl _) rfl))))
  · 
   intro v37 e38
   have hw2:=hw1.trans e38
   refine dk rfl rfl (deps_nil (wl_load rfl rfl (ldz17 _ hw2 _ _ aggInt) (by decide) ?_))
   exact pi_done rfl (Ext.refl _) rfl
  · 
   exact fun _ _=>deps_nil (mv 1 rfl (pi_done rfl (Ext.refl _) rfl))
  · 
   exact fun _ _=>deps_nil (mv 1 rfl (pi_done rfl (Ext.refl _) rfl))
  · 
   exact fun _ _=>dk rfl rfl (dk rfl rfl (deps_nil (wl_idx rfl rfl rfl elemI aggInt.size k rfl (by omega) pz18 hpz18 (by decide) (pi_done rfl (Ext.refl _) rfl))))
  · 
   intro v60 e61
   have hw2:=hw1.trans e61
   refine dk rfl rfl (deps_nil (wl_load rfl rfl (ldz18 _ hw2 _ _ aggInt) (by decide) ?_))
   exact pi_done rfl (Ext.refl _) rfl
  · 
   exact fun _ e68=>deps_nil (lo aggInt (b_3.ext e68) [.bool kg.s,.slice kg.A kg.n kg.c] rfl rfl rfl (pi_done rfl (Ext.refl _) rfl))
  · 
   intro v69 e70
   have hw2:=hw1.trans e70
   refine dk rfl rfl (dk rfl rfl (dk rfl rfl (deps_nil ?_)))
   have L86:ln ((zs.getD k 0)*(ys.getD k 0)+(dotK zs ys k))≤4194305:=Nat.le_trans (ln_add (ln_mul (Nat.le_trans ez17.ln (hmb k)) (Nat.le_trans ez18.ln (hmb2 k))) hsl) (by decide)
   refine cl (vs:= [.agg #[.bool sz17,.slice Bz17 (ms.getD k 0) cz17],.agg #[.bool sz18,.slice Bz18 (ms2.getD k 0) cz18],.agg #[.bool kg.s,.slice kg.A kg.n kg.c]]) hw2 (g_zint_MulAdd hw2.size (ez17.ext hw2) (Nat.le_trans (hmb k) (by decide)) (ez18.ext hw2) (Nat.le_trans (hmb2 k) (by decide)) (zg.ext e70).zi (zg.le (lx_ hsl rfl))) rfl (by kernel_rfl) fun xr89 v87 r89 e88 hw3=>?_
   obtain⟨s90,A90,n90,c90,rfl,z90⟩:=r89
   exact pi_done rfl e88 ⟨_,_,_,_,rfl,z90⟩
  · 
   intro v91 e92
   have hw2:=hw1.trans e92
   refine dk rfl rfl (dk rfl rfl (dk rfl rfl (dk rfl rfl (dk rfl rfl (dk rfl rfl (dk rfl rfl (dk rfl rfl (dk rfl rfl (deps_cons rfl rfl fun x138 y139 h140 e141 f142=>?_)))))))))
   obtain⟨s143,A143,n143,c143,rfl,z143⟩:=h140
   have z143:=z143.ext f142
   refine deps_nil ?_
   have hb145:=(b_3.ext e92)
   refine so aggInt hb145 [.bool s143,.slice A143 n143 c143] hw2 ge10 rfl rfl rfl rfl fun v144 hb146 u147 hw3=>(wl_nil (eo_np (eo_block_normal (eo_then (cw_region (wl_ar rfl rfl rfl ((k+1:Nat):Int) (ai_add (a:=k) (b:=1) rfl rfl (by omega)) (by decide) (mv 1 rfl (wl_nil (eo_round (⟨v144,k+1,⟨s143,A143,n143,c143⟩⟩:World×Nat×ZC) ⟨hw3,(by omega),((b_2.ext e92).updN u147 (by omega)),hb146,((z143.updT hb145 u147)).cast rfl⟩ (show n-(k+1)<n-k by omega) rfl ⟨rfl,rfl,rfl,rfl,rfl,rfl,trivial⟩)))))))))
 · 
  refine cw_region (wl_cmp rfl rfl rfl false (cb_lt_f (a:=k) (b:=n) rfl rfl (by omega)) (by decide) (ne_ (cw_seq (cw_false rfl (cw_exit (eo_thenX (eo_loopX (eo_block_here (eo_then (sr (lo aggInt b_3 [.bool kg.s,.slice kg.A kg.n kg.c] rfl rfl rfl ?_)))))))))))
  have hb150:=b_2
  refine so aggInt hb150 [.bool kg.s,.slice kg.A kg.n kg.c] hw1 ge5 rfl rfl rfl rfl fun v149 hb151 u152 hw2=>(mv 1 rfl (ne_ (cw_ret (eo_ret [.agg #[.bool kg.s,.slice kg.A kg.n kg.c],I0] rfl ⟨⟨_,rfl,load_agg aggInt hb151 [.bool kg.s,.slice kg.A kg.n kg.c] rfl (bq rfl) rfl⟩,rfl,trivial⟩ ?_))))
  have hkn2:k=n:=by omega
  exact⟨_,rfl,⟨_,_,rfl,⟨_,_,_,_,rfl,(((zg.updT hb150 u152)).cast (show dotK zs ys k=dotK zs ys n by rw [hkn2])).mono hb⟩,rfl⟩,hw2⟩
set_option maxHeartbeats 4000000 in
theorem g_zint_Dot_bad {w:World}{b:Nat}(hb:b≤w.heap.size){A C:Option Addr}{n m cap cap':Nat}{zs ys:List Int}{ms ms2:List Nat}(hl:Zl w A n cap zs ms) (hn:n≤1048576) (hmb:∀i,ms.getD i 0≤1048576) (hl2:Zl w C m cap' ys ms2) (hmb2:∀i,ms2.getD i 0≤1048576) (hne:n≠m):
    Calls Tryz.prog 60 #[.slice A n cap,.slice C m cap'] w (Gv w (T2 (ZR b 0) (Is (.int .i64 2)))):=by
 refine sx_enter Tryz.func60 rfl (n:=32) rfl (bq rfl) (args:= [.slice A n cap,.slice C m cap']) (cw_keep [(0,.slice A n cap),(1,.slice C m cap')] ⟨rfl,rfl,trivial⟩ (sr (al [F0,S0] (Ext.refl w) (fun _=>by kernel_rfl) rfl fun g1 v2 hb4 ge5 e3 hw1=>(mv 1 rfl (ne_ (cw_seq (sr (mv 1 rfl (pu (v:= .int .i64 ((n:Nat):Int)) rfl (by kernel_rfl) (mv 1 rfl (pu (v:= .int .i64 ((m:Nat):Int)) rfl (by kernel_rfl) (wl_cmp rfl rfl rfl true (cb_ne_t (a:=n) (b:=m) rfl rfl (by omega)) (by decide) (wl_nil ?_)))))))))))))
 refine eo_then (cw_true rfl (sr (pu (v:= .agg #[F0,S0]) rfl (by kernel_rfl) (so aggInt hb4 [F0,S0] hw1 ge5 rfl rfl rfl rfl fun v6 hb8 u9 hw2=>(mv 1 rfl (ne_ (cw_ret (eo_thenR (eo_ret [.agg #[F0,S0],.int .i64 2] rfl ⟨⟨_,rfl,load_agg aggInt hb8 [F0,S0] rfl (bq rfl) rfl⟩,rfl,trivial⟩ ?_)))))))))
 exact⟨_,rfl,⟨_,_,rfl,⟨_,_,_,_,rfl,(((Zr.zero (w:=v2) (base:=w.heap.size)).updT hb4 u9)).mono hb⟩,rfl⟩,hw2⟩
theorem ln_ediv5 {x y:Int}{N:Nat}(h:ln x≤N):ln (x/y)≤N+2:=by
 by_cases h0:y=0
 ·subst h0;rw [Int.ediv_zero];exact Nat.zero_le _
 have h1:=Int.mul_ediv_add_emod x y
 have h2:=Int.emod_nonneg x h0
 have h3:=Int.emod_lt x h0
 have h4:(x/y*y).natAbs≤x.natAbs+y.natAbs:=by rw [Int.mul_comm];omega
 rw [Int.natAbs_mul] at h4
 have h5:(x/y).natAbs≤x.natAbs+1:=by
  refine Nat.le_of_mul_le_mul_right (c:=y.natAbs) ?_ (by omega)
  have:x.natAbs*1≤x.natAbs*y.natAbs:=Nat.mul_le_mul_left _ (by omega)
  rw [Nat.add_mul];omega
 refine Nat.le_trans (ln_mono (y:=(x.natAbs:Int)+1) (by omega)) ?_
 exact Nat.le_trans (ln_add (a:=N) (b:=1) (by rw [ln_abs];exact h) (show ln 1≤1 by decide+kernel)) (by omega)
theorem eu_uniq {q r x y:Int}(h0:y≠0) (he:q*y+r=x) (h1:0≤r) (h2:r<(y.natAbs:Int)):q=x/y∧r=x%y:=by
 have e1:=Int.mul_ediv_add_emod x y
 have e2:=Int.emod_nonneg x h0
 have e3:=Int.emod_lt x h0
 have hd:(q-x/y)*y=x%y-r:=by rw [Int.sub_mul,Int.mul_comm (x/y)];omega
 have hq:q-x/y=0:=by
  by_cases hz:q-x/y=0
  ·exact hz
  ·exfalso
   have h5:((q-x/y)*y).natAbs<y.natAbs:=by rw [hd];omega
   rw [Int.natAbs_mul] at h5
   have:1*y.natAbs≤(q-x/y).natAbs*y.natAbs:=Nat.mul_le_mul_right _ (by omega)
   omega
 have hq2:q=x/y:=by omega
 refine⟨hq2,?_⟩
 rw [hq,Int.zero_mul] at hd
 omega
theorem UpdO.refl (A:Option Addr) (w:World):UpdO A w w:=⟨World.grownBy.refl _ _⟩
theorem UpdO.trans {A:Option Addr}{a b c:World}(h:UpdO A a b) (k:UpdO A b c):UpdO A a c:=
 ⟨⟨k.by_.os.trans h.by_.os,k.by_.tape.trans h.by_.tape,k.by_.output.trans h.by_.output,Nat.le_trans h.by_.size k.by_.size,
  fun i hi hne=>(k.by_.block i (Nat.lt_of_lt_of_le hi h.by_.size) hne).trans (h.by_.block i hi hne)⟩⟩
theorem UpdO.then_ext {A:Option Addr}{a b c:World}(h:UpdO A a b) (e:Ext b c):UpdO A a c:=
 ⟨⟨e.below.os.trans h.by_.os,e.below.tape.trans h.by_.tape,e.below.output.trans h.by_.output,Nat.le_trans h.by_.size e.below.size,
  fun i hi hne=>(e.below.block i (Nat.lt_of_lt_of_le hi h.by_.size)).trans (h.by_.block i hi hne)⟩⟩
theorem Own.at1 {w:World}{lb:Nat}{T:TypeId}{A:Option Addr}{n c:Nat}{f:Nat→Value}{xs:List Nat}(h:Own w lb T 1 A n c (xs.map f)){i:Nat}(hi:i<n):
  ∃p,A.map (·.add (i*1))=some p∧w.cell? p=some (f (xs.getD i 0)):=by
 have hl:=h.rv.len
 rw [List.length_map,Nat.mul_one] at hl
 obtain⟨a,rfl,hc⟩:=h.rv.get i (by omega)
 refine⟨a.add i,by rw [Nat.mul_one];rfl,?_⟩
 rw [hc]
 simp [List.getD_eq_getElem?_getD,List.getElem?_map,List.getElem?_eq_getElem (show i<xs.length by omega)]
theorem own_len1 {w:World}{b n c:Nat}{T:TypeId}{A:Option Addr}{f:Nat→Value}{l:List Nat}(h:Own w b T 1 A n c (l.map f)):l.length=n:=by have:=h.rv.len;rwa [List.length_map,Nat.mul_one] at this
theorem Own.take1 {w:World}{lb:Nat}{T:TypeId}{A:Option Addr}{n c k:Nat}{f:Nat→Value}{xs:List Nat}(h:Own w lb T 1 A n c (xs.map f)) (hk:k≤n):Own w lb T 1 A k c ((xs.take k).map f):=by
 have:=h.take hk
 rwa [Nat.mul_one,←List.map_take] at this
theorem own_set {w:World}{lb:Nat}{T:TypeId}{A:Option Addr}{n c:Nat}{f:Nat→Value}{xs:List Nat}(h:Own w lb T 1 A n c (xs.map f)){i u:Nat}(hi:i<n) (h1:(f u).oneCell'=true) (hcl:(f u).cells= #[f u]){P:Program}{T':TypeId}(hT:∀w,(sizeOf T').run P w= .ok 1 w){p:Addr}(hp:A.map (·.add (i*1))=some p):
  ∃w',(storeVar T' p (f u)).run P w= .ok () w'∧Own w' lb T 1 A n c ((xs.set i u).map f)∧UpdO A w w':=by
 rcases h with⟨_,rfl,_,_⟩ | ⟨g,cs,rfl,hb,hk,hn,hm,hl,hv⟩
 ·omega
 ·rw [Option.map_some,Option.some.injEq,Nat.mul_one,add_lit0,Nat.zero_add] at hp
  subst hp
  rw [Nat.mul_one] at hl hv
  obtain⟨w',hr,hb2,hu,_⟩:=run_store1v (P:=P) (v:=f u) hT hcl hk (show i<cs.length by omega) h1 _ rfl
  refine⟨w',hr,Or.inr ⟨g,_,rfl,hb,hb2,hn,hm,by rw [List.length_set,hl,Nat.mul_one],?_⟩,hu.updO⟩
  rw [Nat.mul_one,List.take_set,hv,List.map_set]
section
variable {P:Program}{Q:Exit→Act→World→Prop}{n:Nat}{l:Fr}{w:World}{ops:Array Oper}{rest:List Oper}{d:Nat}{ty:TypeId}{pos:String}{af:Array Edge}{gd:Option (Nat×Bool)}
theorem wl_setO {x y:Operand}{T T':TypeId}{lb:Nat}{A:Option Addr}{m c:Nat}{f:Nat→Value}{xs:List Nat}{i u:Nat}{p:Addr}(hw:guardB ops l gd=some true) (hx:evo l x=some (.pointer (some p))) (hy:evo l y=some (f u))
  (hp:A.map (·.add (i*1))=some p) (h:Own w lb T 1 A m c (xs.map f)) (hi:i<m) (h1:(f u).oneCell'=true) (hcl:(f u).cells= #[f u]) (hT:∀w,(sizeOf T').run P w= .ok 1 w)
  (k:∀w',Own w' lb T 1 A m c ((xs.set i u).map f)→UpdO A w w'→wl P ops Q n rest l w'):wl P ops Q n (⟨none,.store T' x y,ty,pos,af,gd⟩::rest) l w:=by
 obtain⟨w',hr,h2,h3⟩:=own_set (P:=P) (T':=T') h hi h1 hcl hT hp
 exact wl_store hw hx hy hr (k w' h2 h3)
end
theorem un_int4:Tryz.prog.underlying 114=some (.slice 3):=Tryz.underlying114
theorem sz_int4 (w:World):(sizeOf 3).run Tryz.prog w= .ok 1 w:=by kernel_rfl
def OI (b:Nat) (ds:List Nat) (v:Value) (w:World):Prop:=∃A n c,v= .slice A n c∧ds.length=n∧Own w b 3 1 A n c (ds.map I6)
theorem g_split4 {w:World}{A:Option Addr}{n c m:Nat}(hx:Wi w A n c m) (hl:n≤274877906943):Calls Tryz.prog 142 #[.slice A n c] w (Gv w (OI w.heap.size (db 65536 m))):=by
 obtain⟨xs,h1,rfl⟩:=hx
 refine (ref1_Split h1 hl).mono fun e w' h=>?_
 obtain⟨A,n,c,rfl,h1,h2,h3,h4⟩:=h
 exact⟨_,rfl,⟨A,n,c,rfl,h1.out.symm,h3⟩,h4⟩
theorem replicate_B8 (n:Nat):List.replicate n (Value.int .u8 0)=(List.replicate n 0).map B8:=by rw [List.map_replicate];rfl
def sgns:List Nat:= [48,49,50,51,52,53,54,55,56,57,97,98,99,100,101,102,103,104,105,106,107,108,109,110,111,112,113,114,115,116,117,118,119,120,121,122]
theorem sgns_get {d:Nat}(h:d<36):sgns.getD d 0=sgn d:=by
 have key:∀d,d<36→sgns.getD d 0=sgn d:=by decide
 exact key d h
theorem over_step {ds l:List Nat}{base j rest:Nat}(hb:0<base) (hj:0<j) (hjl:j≤l.length) (hl:l.length=ds.length) (ht:l.take j=ds.take j) (h:nb 65536 (ds.drop j)=base*nb 65536 (l.drop j)+rest):
  nb 65536 (ds.drop (j-1))=base*nb 65536 ((l.set (j-1) ((rest*65536+l.getD (j-1) 0)/base)).drop (j-1))+(rest*65536+l.getD (j-1) 0)%base:=by
 have e1:l.getD (j-1) 0=ds.getD (j-1) 0:=by
  have h1:(l.take j).getD (j-1) 0=(ds.take j).getD (j-1) 0:=by rw [ht]
  simpa [List.getD_eq_getElem?_getD,List.getElem?_take,show j-1<j by omega] using h1
 have e2:ds.drop (j-1)=ds.getD (j-1) 0::ds.drop j:=by
  rw [drop_getD (by omega),show j-1+1=j by omega]
 have e3:(l.set (j-1) ((rest*65536+l.getD (j-1) 0)/base)).drop (j-1)=((rest*65536+l.getD (j-1) 0)/base)::l.drop j:=by
  rw [drop_getD (by rw [List.length_set];omega)]
  congr 1
  ·simp [List.getD_eq_getElem?_getD,show j-1<l.length by omega]
  ·rw [show j-1+1=j by omega,List.drop_set_of_lt (by omega)]
 rw [e2,e3,nb_cons,nb_cons,h,←e1]
 have h5:=Nat.div_add_mod (rest*65536+l.getD (j-1) 0) base
 generalize (rest*65536+l.getD (j-1) 0)/base=q at h5⊢
 generalize (rest*65536+l.getD (j-1) 0)%base=r at h5⊢
 have h6:base*(q+65536*nb 65536 (l.drop j))=base*q+65536*(base*nb 65536 (l.drop j)):=by rw [Nat.mul_add,Nat.mul_left_comm]
 rw [h6]
 omega
theorem onto_step {ds l:List Nat}{base i c v:Nat}(hi:i<l.length) (hl:l.length=ds.length) (ht:l.drop i=ds.drop i) (h:nb 65536 (l.take i)+65536^i*c=nb 65536 (ds.take i)*base+v):
  nb 65536 ((l.set i ((l.getD i 0*base+c)%65536)).take (i+1))+65536^(i+1)*((l.getD i 0*base+c)/65536)=nb 65536 (ds.take (i+1))*base+v:=by
 have e1:l.getD i 0=ds.getD i 0:=by
  have h1:(l.drop i).getD 0 0=(ds.drop i).getD 0 0:=by rw [ht]
  simpa [List.getD_eq_getElem?_getD,List.getElem?_drop] using h1
 rw [nb_set_snoc 65536 hi,Nat.pow_succ,Nat.mul_assoc,Nat.add_assoc,←Nat.mul_add,Nat.mod_add_div,nb_take_snoc 65536 ds i (by omega),Nat.add_mul,←e1,Nat.mul_add,Nat.mul_assoc]
 omega
theorem sgn_dv {c:Nat}(h:dv c<36) (hn:¬(65≤c∧c≤90)):sgn (dv c)=c:=by
 unfold dv at h⊢
 unfold sgn
 (repeat' split at h) <;> (repeat' split) <;> omega
theorem over_lt {rest base d:Nat}(h:rest<base) (hd:d<65536):(rest*65536+d)/base<65536:=by
 rw [Nat.div_lt_iff_lt_mul (by omega)]
 have:(rest+1)*65536≤base*65536:=Nat.mul_le_mul_right _ h
 omega
theorem divmod_of {a b q r:Nat}(hb:0<b) (hr:r<b) (h:a=b*q+r):a/b=q∧r=a%b:=by
 subst h
 exact⟨by rw [Nat.mul_add_div hb,Nat.div_eq_of_lt hr,Nat.add_zero],by rw [Nat.mul_add_mod,Nat.mod_eq_of_lt hr]⟩
set_option maxHeartbeats 4000000 in
theorem ref4_value {w:World}{c:Nat}(hc:c≤255):
    Calls Tryz.prog 200 #[.int .u8 ((c:Nat):Int)] w (Gv w (Is (.int .i64 (if dv c<36 then ((dv c:Nat):Int) else 99)))):=by
 refine sx_enter Tryz.func200 rfl (n:=23) rfl (bq rfl) (args:= [.int .u8 ((c:Nat):Int)]) (cw_keep [(0,.int .u8 ((c:Nat):Int))] ⟨rfl,trivial⟩ (sr (mv 1 rfl (ne_ (cw_seq (cw_seq ?_))))))
 by_cases ha65:c≥65
 · 
  by_cases hb90:c≤90
  · 
   refine cw_region (mv 1 rfl (wl_cmp rfl rfl rfl true (cb_ge_t (a:=c) (b:=65) rfl rfl (by omega)) (by decide) (mv 2 rfl (wl_cmp rfl rfl rfl true (cb_le_t (a:=c) (b:=90) rfl rfl (by omega)) (by decide) (pu (v:= .bool true) rfl (by kernel_rfl) (ne_ (cw_true rfl (sr (mv 1 rfl (wl_ar rfl rfl rfl ((c-65:Nat):Int) (a8_sub (a:=c) (b:=65) rfl rfl (by omega) (by omega)) (by decide) (wl_pureE rfl rfl (v:= .int .i64 (IntKind.i64.wrap ((c-65:Nat):Int))) (v':= .int .i64 ((c-65:Nat):Int)) (by decide) (by kernel_rfl) (cv_i64 (by first | omega | exact hle64)) (wl_ar rfl rfl rfl (((c-65)+10:Nat):Int) (ai_add (a:=c-65) (b:=10) rfl rfl (by omega)) (by decide) (mv 1 rfl ?_)))))))))))))
   refine ne_ (cw_ret (eo_thenR (eo_ret [.int .i64 (((c-65)+10:Nat):Int)] rfl ⟨rfl,trivial⟩ ?_)))
   have hv:dv c=(c-65)+10:=by unfold dv;rw [if_neg (by omega),if_neg (by omega),if_pos (by omega)];omega
   exact⟨_,rfl,(show Value.int .i64 ((((c-65)+10:Nat):Int))=_ by rw [hv,if_pos (by omega)]),(Ext.refl w)⟩
  · 
   refine cw_region (mv 1 rfl (wl_cmp rfl rfl rfl true (cb_ge_t (a:=c) (b:=65) rfl rfl (by omega)) (by decide) (mv 2 rfl (wl_cmp rfl rfl rfl false (cb_le_f (a:=c) (b:=90) rfl rfl (by omega)) (by decide) (pu (v:= .bool false) rfl (by kernel_rfl) (ne_ (cw_false rfl (cw_skip (eo_then (cw_seq (sr (mv 1 rfl (wl_nil ?_)))))))))))))
   refine eo_then (cw_block ?_)
   refine cw_loop (T:=World×Nat)
    (fun⟨wr,i⟩=> [(0,.int .u8 ((c:Nat):Int)),(3,.int .i64 ((i:Nat):Int))])
    (fun⟨wr,i⟩=>wr)
    (fun⟨wr,i⟩=>(Ext w wr)∧(i≤36)∧(∀j,j<i→sgn j≠c))
    (fun⟨wr,i⟩=>36-i)
    (⟨w,0⟩:World×Nat) ⟨(Ext.refl w),(Nat.zero_le _),(fun j hj=>absurd hj (Nat.not_lt_zero _))⟩ rfl ⟨rfl,rfl,trivial⟩ ?_
   rintro⟨wr,i⟩ ⟨hw1,hi,hno⟩
   refine cw_re [(0,.int .u8 ((c:Nat):Int)),(3,.int .i64 ((i:Nat):Int))] wr rfl ⟨rfl,rfl,trivial⟩ (cw_seq (cw_seq ?_))
   by_cases hi36:i<36
   · 
    refine cw_region (mv 1 rfl (wl_cmp rfl rfl rfl true (cb_lt_t (a:=i) (b:=36) rfl rfl (by omega)) (by decide) (ne_ (cw_true rfl (cw_skip (eo_then (cw_seq (cw_block (cw_seq ?_)))))))))
    by_cases hne:([48,49,50,51,52,53,54,55,56,57,97,98,99,100,101,102,103,104,105,106,107,108,109,110,111,112,113,114,115,116,117,118,119,120,121,122]).getD i 0=c
    · 
     refine cw_region (mv 1 rfl (wl_strix (bs:= [48,49,50,51,52,53,54,55,56,57,97,98,99,100,101,102,103,104,105,106,107,108,109,110,111,112,113,114,115,116,117,118,119,120,121,122]) (i:=i) rfl rfl rfl Tryz.underlying9 (by decide) (by omega) (by decide) (mv 1 rfl (wl_cmp rfl rfl rfl true (cb_eq_t (a:=([48,49,50,51,52,53,54,55,56,57,97,98,99,100,101,102,103,104,105,106,107,108,109,110,111,112,113,114,115,116,117,118,119,120,121,122]).getD i 0) (b:=c) rfl rfl (by omega)) (by decide) (ne_ (cw_true rfl (sr (mv 2 rfl (ne_ (cw_ret (eo_block_ret (eo_thenR (eo_loopR ?_)))))))))))))
     refine eo_block_ret (eo_thenR (eo_ret [.int .i64 ((i:Nat):Int)] rfl ⟨rfl,trivial⟩ ?_))
     have hv:dv c=i:=by rw [←hne];exact (congrArg dv (sgns_get hi36)).trans (dv_sgn hi36)
     exact⟨_,rfl,(show Value.int .i64 ((i:Nat):Int)=_ by rw [hv,if_pos hi36]),hw1⟩
    · 
     refine cw_region (mv 1 rfl (wl_strix (bs:= [48,49,50,51,52,53,54,55,56,57,97,98,99,100,101,102,103,104,105,106,107,108,109,110,111,112,113,114,115,116,117,118,119,120,121,122]) (i:=i) rfl rfl rfl Tryz.underlying9 (by decide) (by omega) (by decide) (mv 1 rfl (wl_cmp rfl rfl rfl false (cb_eq_f (a:=([48,49,50,51,52,53,54,55,56,57,97,98,99,100,101,102,103,104,105,106,107,108,109,110,111,112,113,114,115,116,117,118,119,120,121,122]).getD i 0) (b:=c) rfl rfl (by omega)) (by decide) (ne_ (cw_false rfl (cw_skip (eo_block_normal (eo_then (cw_region (mv 1 rfl (wl_ar rfl rfl rfl ((i+1:Nat):Int) (ai_add (a:=i) (b:=1) rfl rfl (by omega)) (by decide) (mv 1 rfl ?_)))))))))))))
     refine wl_nil (eo_round (⟨wr,i+1⟩:World×Nat) ⟨hw1,(by omega),(fun j hj=>by by_cases h:j=i;(· subst h;rw [←sgns_get hi36];exact hne);(· exact hno j (by omega)))⟩ (show 36-(i+1)<36-i by omega) rfl ⟨rfl,rfl,trivial⟩)
   · 
    refine cw_region (mv 1 rfl (wl_cmp rfl rfl rfl false (cb_lt_f (a:=i) (b:=36) rfl rfl (by omega)) (by decide) (ne_ (cw_false rfl (cw_exit (eo_thenX (eo_loopX (eo_block_here (eo_then (sr (mv 1 rfl (ne_ (cw_ret ?_)))))))))))))
    refine eo_ret [.int .i64 99] rfl ⟨rfl,trivial⟩ ?_
    have hv:¬dv c<36:=fun h=>hno (dv c) (by omega) (sgn_dv h (by omega))
    exact⟨_,rfl,(show Value.int .i64 (99:Int)=_ by rw [if_neg hv]),hw1⟩
 · 
  refine cw_region (mv 1 rfl (wl_cmp rfl rfl rfl false (cb_ge_f (a:=c) (b:=65) rfl rfl (by omega)) (by decide) (mv 3 rfl (pu (v:= .bool false) rfl (by kernel_rfl) (ne_ (cw_false rfl (cw_skip (eo_then (cw_seq (sr (mv 1 rfl (ne_ (cw_block ?_)))))))))))))
  refine cw_loop (T:=World×Nat)
   (fun⟨wr,i⟩=> [(0,.int .u8 ((c:Nat):Int)),(3,.int .i64 ((i:Nat):Int))])
   (fun⟨wr,i⟩=>wr)
   (fun⟨wr,i⟩=>(Ext w wr)∧(i≤36)∧(∀j,j<i→sgn j≠c))
   (fun⟨wr,i⟩=>36-i)
   (⟨w,0⟩:World×Nat) ⟨(Ext.refl w),(Nat.zero_le _),(fun j hj=>absurd hj (Nat.not_lt_zero _))⟩ rfl ⟨rfl,rfl,trivial⟩ ?_
  rintro⟨wr,i⟩ ⟨hw1,hi,hno⟩
  refine cw_re [(0,.int .u8 ((c:Nat):Int)),(3,.int .i64 ((i:Nat):Int))] wr rfl ⟨rfl,rfl,trivial⟩ (cw_seq (cw_seq ?_))
  by_cases hi36:i<36
  · 
   refine cw_region (mv 1 rfl (wl_cmp rfl rfl rfl true (cb_lt_t (a:=i) (b:=36) rfl rfl (by omega)) (by decide) (ne_ (cw_true rfl (cw_skip (eo_then (cw_seq (cw_block (cw_seq ?_)))))))))
   by_cases hne:([48,49,50,51,52,53,54,55,56,57,97,98,99,100,101,102,103,104,105,106,107,108,109,110,111,112,113,114,115,116,117,118,119,120,121,122]).getD i 0=c
   · 
    refine cw_region (mv 1 rfl (wl_strix (bs:= [48,49,50,51,52,53,54,55,56,57,97,98,99,100,101,102,103,104,105,106,107,108,109,110,111,112,113,114,115,116,117,118,119,120,121,122]) (i:=i) rfl rfl rfl Tryz.underlying9 (by decide) (by omega) (by decide) (mv 1 rfl (wl_cmp rfl rfl rfl true (cb_eq_t (a:=([48,49,50,51,52,53,54,55,56,57,97,98,99,100,101,102,103,104,105,106,107,108,109,110,111,112,113,114,115,116,117,118,119,120,121,122]).getD i 0) (b:=c) rfl rfl (by omega)) (by decide) (ne_ (cw_true rfl (sr (mv 2 rfl (ne_ (cw_ret (eo_block_ret (eo_thenR (eo_loopR ?_)))))))))))))
    refine eo_block_ret (eo_thenR (eo_ret [.int .i64 ((i:Nat):Int)] rfl ⟨rfl,trivial⟩ ?_))
    have hv:dv c=i:=by rw [←hne];exact (congrArg dv (sgns_get hi36)).trans (dv_sgn hi36)
    exact⟨_,rfl,(show Value.int .i64 ((i:Nat):Int)=_ by rw [hv,if_pos hi36]),hw1⟩
   · 
    refine cw_region (mv 1 rfl (wl_strix (bs:= [48,49,50,51,52,53,54,55,56,57,97,98,99,100,101,102,103,104,105,106,107,108,109,110,111,112,113,114,115,116,117,118,119,120,121,122]) (i:=i) rfl rfl rfl Tryz.underlying9 (by decide) (by omega) (by decide) (mv 1 rfl (wl_cmp rfl rfl rfl false (cb_eq_f (a:=([48,49,50,51,52,53,54,55,56,57,97,98,99,100,101,102,103,104,105,106,107,108,109,110,111,112,113,114,115,116,117,118,119,120,121,122]).getD i 0) (b:=c) rfl rfl (by omega)) (by decide) (ne_ (cw_false rfl (cw_skip (eo_block_normal (eo_then (cw_region (mv 1 rfl (wl_ar rfl rfl rfl ((i+1:Nat):Int) (ai_add (a:=i) (b:=1) rfl rfl (by omega)) (by decide) (mv 1 rfl ?_)))))))))))))
    refine wl_nil (eo_round (⟨wr,i+1⟩:World×Nat) ⟨hw1,(by omega),(fun j hj=>by by_cases h:j=i;(· subst h;rw [←sgns_get hi36];exact hne);(· exact hno j (by omega)))⟩ (show 36-(i+1)<36-i by omega) rfl ⟨rfl,rfl,trivial⟩)
  · 
   refine cw_region (mv 1 rfl (wl_cmp rfl rfl rfl false (cb_lt_f (a:=i) (b:=36) rfl rfl (by omega)) (by decide) (ne_ (cw_false rfl (cw_exit (eo_thenX (eo_loopX (eo_block_here (eo_then (sr (mv 1 rfl (ne_ (cw_ret ?_)))))))))))))
   refine eo_ret [.int .i64 99] rfl ⟨rfl,trivial⟩ ?_
   have hv:¬dv c<36:=fun h=>hno (dv c) (by omega) (sgn_dv h (by omega))
   exact⟨_,rfl,(show Value.int .i64 (99:Int)=_ by rw [if_neg hv]),hw1⟩
set_option maxHeartbeats 4000000 in
theorem ref4_over {w:World}{lb:Nat}{A:Option Addr}{n c base:Nat}{ds:List Nat}(ho:Own w lb 3 1 A n c (ds.map I6)) (hwf:Wfb 65536 ds) (hbl:2≤base) (hbu:base≤36) (hn:n≤1099511627776):
    Calls Tryz.prog 199 #[.slice A n c,.int .i64 ((base:Nat):Int)] w (fun e w'=>∃es:List Nat,e= .returned (.int .i64 ((nb 65536 ds%base:Nat):Int))∧Own w' lb 3 1 A n c (es.map I6)∧es.length=n∧Wfb 65536 es∧nb 65536 es=nb 65536 ds/base∧UpdO A w w'):=by
 have hdl:=own_len1 ho
 refine sx_enter Tryz.func199 rfl (n:=32) rfl (bq rfl) (args:= [.slice A n c,.int .i64 ((base:Nat):Int)]) (cw_keep [(0,.slice A n c),(1,.int .i64 ((base:Nat):Int))] ⟨rfl,rfl,trivial⟩ (sr (mv 1 rfl (ne_ (sr (mv 1 rfl (ne_ (cw_seq (sr (mv 1 rfl (pu (v:= .int .i64 ((n:Nat):Int)) rfl (by kernel_rfl) (wl_ar rfl rfl rfl (((n:Nat):Int)-1) (ar_i64s rfl (by omega) (by omega)) (by decide) (mv 1 rfl ?_)))))))))))))
 refine ne_ (cw_block ?_)
 refine cw_loop (T:=World×Nat×Nat×List Nat)
  (fun⟨wr,j,rest,l⟩=> [(0,.slice A n c),(1,.int .i64 ((base:Nat):Int)),(5,.int .i64 ((rest:Nat):Int)),(6,.int .i64 (((j:Nat):Int)-1))])
  (fun⟨wr,j,rest,l⟩=>wr)
  (fun⟨wr,j,rest,l⟩=>(UpdO A w wr)∧(j≤n)∧(Own wr lb 3 1 A n c (l.map I6))∧(l.length=n)∧(Wfb 65536 l)∧(l.take j=ds.take j)∧(rest<base)∧(nb 65536 (ds.drop j)=base*nb 65536 (l.drop j)+rest))
  (fun⟨wr,j,rest,l⟩=>j)
  (⟨w,n,0,ds⟩:World×Nat×Nat×List Nat) ⟨(UpdO.refl A w),(Nat.le_refl _),ho,(own_len1 ho),hwf,rfl,(by omega),(by rw [List.drop_of_length_le (by have:=own_len1 ho;omega)];rfl)⟩ rfl ⟨rfl,rfl,rfl,rfl,trivial⟩ ?_
 rintro⟨wr,j,rest,l⟩ ⟨hw1,hj,hO,hll,hwl,htk,hre,hv⟩
 refine cw_re [(0,.slice A n c),(1,.int .i64 ((base:Nat):Int)),(5,.int .i64 ((rest:Nat):Int)),(6,.int .i64 (((j:Nat):Int)-1))] wr rfl ⟨rfl,rfl,rfl,rfl,trivial⟩ (cw_seq (cw_seq ?_))
 by_cases hj0:0<j
 · 
  have hj1:((j:Nat):Int)-1=((j-1:Nat):Int):=by omega
  refine cw_keep [(0,.slice A n c),(1,.int .i64 ((base:Nat):Int)),(5,.int .i64 ((rest:Nat):Int)),(6,.int .i64 (((j:Nat):Int)-1))] ⟨rfl,rfl,rfl,rfl,trivial⟩ ?_
  rw [hj1]
  refine cw_region (mv 1 rfl (wl_cmp rfl rfl rfl true (cb_ge_t (a:=j-1) (b:=0) rfl rfl (by omega)) (by decide) (ne_ (cw_true rfl (cw_skip (eo_then (cw_seq (cw_block (cw_seq ?_)))))))))
  have hdb:=Wfb_getD (b:=65536) (by decide) hwl (j-1)
  refine cw_region (mv 1 rfl (wl_ar rfl rfl rfl ((rest*65536:Nat):Int) (ai_mul (a:=rest) (b:=65536) rfl rfl (by omega)) (by decide) (mv 2 rfl ?_)))
  obtain⟨p1,hp1,hc1⟩:=(hO).at1 (i:=j-1) (by omega)
  refine wl_idx rfl rfl rfl un_int4 sz_int4 (j-1) rfl (by omega) p1 hp1 (by decide) (wl_load rfl rfl (load_cell1 ag_int2 hc1) (by decide) (wl_ar rfl rfl rfl (((rest*65536)+(l.getD (j-1) 0):Nat):Int) (ai_add (a:=rest*65536) (b:=l.getD (j-1) 0) rfl rfl (by omega)) (by decide) (mv 1 rfl (ne_ (sr (mv 4 rfl (wl_ar rfl rfl rfl ((((rest*65536)+(l.getD (j-1) 0))/base:Nat):Int) (ai_quo (a:=(rest*65536)+(l.getD (j-1) 0)) (b:=base) rfl rfl (by omega) (by omega)) (by decide) ?_)))))))
  obtain⟨p2,hp2,hc2⟩:=(hO).at1 (i:=j-1) (by omega)
  refine wl_idx rfl rfl rfl un_int4 sz_int4 (j-1) rfl (by omega) p2 hp2 (by decide) ?_
  have ow3:=hO
  refine wl_setO (f:=I6) (u:=((rest*65536)+(l.getD (j-1) 0))/base) (i:=j-1) rfl rfl rfl hp2 ow3 (by omega) rfl rfl sz_int4 fun v4 ho5 uo6=>?_
  have hw2:UpdO A w v4:=hw1.trans uo6
  refine ne_ (cw_region (mv 2 rfl (wl_ar rfl rfl rfl ((((rest*65536)+(l.getD (j-1) 0))%base:Nat):Int) (au_rem (a:=(rest*65536)+(l.getD (j-1) 0)) (b:=base) rfl rfl (by omega)) (by decide) (mv 1 rfl (wl_nil (eo_block_normal (eo_then (cw_region (mv 1 rfl (wl_ar rfl rfl rfl (((j-1:Nat):Int)-1) (ar_i64s rfl (by omega) (by omega)) (by decide) (mv 1 rfl (wl_nil (eo_round (⟨v4,j-1,(rest*65536+l.getD (j-1) 0)%base,l.set (j-1) (((rest*65536)+(l.getD (j-1) 0))/base)⟩:World×Nat×Nat×List Nat) ⟨hw2,(by omega),ho5,(by rw [List.length_set];exact hll),(Wfb_set hwl _ (over_lt hre (Wfb_getD (by decide) hwl _))),(by rw [List.take_set_of_le (Nat.le_refl _)];have h:=congrArg (List.take (j-1)) htk;rwa [List.take_take,List.take_take,Nat.min_eq_left (by omega)] at h),(Nat.mod_lt _ (by omega)),(over_step (by omega) hj0 (by omega) (by omega) htk hv)⟩ (show j-1<j by omega) rfl ⟨rfl,rfl,rfl,rfl,trivial⟩)))))))))))))
 · 
  refine cw_region (mv 1 rfl (wl_cmp rfl rfl rfl false (ge_f (by omega)) (by decide) (ne_ (cw_false rfl (cw_exit (eo_thenX (eo_loopX (eo_block_here (eo_then (sr (mv 2 rfl (ne_ (cw_ret ?_)))))))))))))
  refine eo_ret [.int .i64 ((rest:Nat):Int)] rfl ⟨rfl,trivial⟩ ?_
  have hj:j=0:=by omega
  subst hj
  rw [List.drop_zero,List.drop_zero] at hv
  obtain⟨h1,h2⟩:=divmod_of (by omega) hre hv
  exact⟨l,(by rw [←h2];rfl),hO,hll,hwl,h1.symm,hw1⟩
theorem len_db16N {m N:Nat}(h:(wd m).length≤N):(db 65536 m).length≤4*N:=by
 refine len_db_le b16 ?_
 have h1:=lt_pow_len m
 refine Nat.lt_of_lt_of_le h1 ?_
 rw [WB_16,←Nat.pow_mul]
 exact Nat.pow_le_pow_right (by decide) (by omega)
theorem len_db16w4 {m:Nat}(h:(wd m).length≤1048576):(db 65536 m).length≤4194304:=len_db16N h
theorem nb_top_pos {l:List Nat}{n:Nat}(hn:0<n) (h:l.getD (n-1) 0≠0):nb 65536 l≠0:=by
 have hl:n-1<l.length:=by
  refine Nat.lt_of_not_le fun hle=>h ?_
  rw [List.getD_eq_getElem?_getD,List.getElem?_eq_none hle];rfl
 rw [nb_split 65536 l (n-1) (by omega),List.drop_eq_getElem_cons hl,nb_cons]
 rw [List.getD_eq_getElem?_getD,List.getElem?_eq_getElem hl,Option.getD_some] at h
 have h3:65536^(n-1)*1≤65536^(n-1)*(l[n-1]+65536*nb 65536 (l.drop (n-1+1))):=Nat.mul_le_mul_left _ (by omega)
 have h4:0<65536^(n-1):=Nat.pow_pos (by decide)
 omega
theorem rev_step {hi L:List Nat}{n i:Nat}(hl:hi.length=n) (hin:i<n) (h:∀j,j<i→hi.getD (n-1-j) 0=L.getD j 0):∀j,j<i+1→(hi.set (n-1-i) (L.getD i 0)).getD (n-1-j) 0=L.getD j 0:=by
 intro j hj
 by_cases e:j=i
 ·subst e
  simp [List.getD_eq_getElem?_getD,show n-1-j<hi.length by omega]
 ·have h1:=h j (by omega)
  rw [List.getD_eq_getElem?_getD,List.getElem?_set_ne (by omega),←List.getD_eq_getElem?_getD]
  exact h1
theorem rev_done {hi L:List Nat}{n:Nat}(hl:hi.length=n) (hL:L.length=n) (h:∀j,j<n→hi.getD (n-1-j) 0=L.getD j 0):hi=L.reverse:=by
 refine List.ext_getElem (by rw [List.length_reverse];omega) fun k h1 h2=>?_
 have h3:=h (n-1-k) (by omega)
 rw [show n-1-(n-1-k)=k by omega,List.getD_eq_getElem?_getD,List.getElem?_eq_getElem h1,List.getD_eq_getElem?_getD,List.getElem?_eq_getElem (by omega)] at h3
 rw [List.getElem_reverse]
 simp only [Option.getD_some] at h3
 rw [h3]
 congr 1
 omega
theorem sgn_map_le {l:List Nat}{i:Nat}(h:∀d,d∈l→d<36):(l.map sgn).getD i 0≤255:=by
 by_cases hi:i<l.length
 ·rw [List.getD_eq_getElem?_getD,List.getElem?_map,List.getElem?_eq_getElem hi]
  have:=sgn_le (h _ (List.getElem_mem hi))
  simp only [Option.map_some,Option.getD_some];omega
 ·rw [List.getD_eq_getElem?_getD,List.getElem?_eq_none (by rw [List.length_map];omega)];exact Nat.zero_le _
set_option maxHeartbeats 4000000 in
theorem ref4_Text {w:World}{A:Option Addr}{an ac m:Nat}(hx:Wi w A an ac m) (hal:an≤1048576){base:Nat}(hbl:2≤base) (hbu:base≤36):
    Calls Tryz.prog 177 #[.slice A an ac,.int .i64 ((base:Nat):Int)] w (Gv w (T2 (Is (.string (strB (txtN base m)))) (Is (.int .i64 0)))):=by
 have hml2:(wd m).length≤1048576:=Nat.le_trans hx.len hal
 have hdl:=len_db_small hbl hml2
 refine sx_enter Tryz.func177 rfl (n:=72) rfl (bq rfl) (args:= [.slice A an ac,.int .i64 ((base:Nat):Int)]) (cw_keep [(0,.slice A an ac),(1,.int .i64 ((base:Nat):Int))] ⟨rfl,rfl,trivial⟩ (sr (mv 2 rfl (ne_ (cw_seq (sr (mv 1 rfl (wl_cmp rfl rfl rfl false (cb_lt_f (a:=base) (b:=2) rfl rfl (by omega)) (by decide) (mv 2 rfl (wl_cmp rfl rfl rfl false (cb_gt_f (a:=base) (b:=36) rfl rfl (by omega)) (by decide) (pu (v:= .bool false) rfl (by kernel_rfl) (ne_ (cw_false rfl ?_)))))))))))))
 refine cw_skip (eo_then (sr (mv 1 rfl (cl (vs:= [.slice A an ac]) (Ext.refl w) (g_split4 hx (by omega)) rfl (by kernel_rfl) fun xr3 v1 r3 e2 hw1=>?_))))
 obtain⟨A4,n4,c4,rfl,hl4,ho4⟩:=r3
 refine mv 1 rfl (ne_ (sr (mv 1 rfl (ne_ (cw_seq (cw_block ?_))))))
 refine cw_loop (T:=World×List Nat×List Nat×Option Addr×Nat×Nat×Option Addr×Nat×Nat)
  (fun⟨wr,lds,l,DA,dn,dc,OA,on,oc⟩=> [(1,.int .i64 ((base:Nat):Int)),(6,.slice DA dn dc),(7,.slice OA on oc)])
  (fun⟨wr,lds,l,DA,dn,dc,OA,on,oc⟩=>wr)
  (fun⟨wr,lds,l,DA,dn,dc,OA,on,oc⟩=>(Ext w wr)∧(Own wr w.heap.size 5 1 OA on oc ((lds.map sgn).map B8))∧(Own wr w.heap.size 3 1 DA dn dc (l.map I6))∧(Wfb 65536 l)∧(dn=0∨l.getD (dn-1) 0≠0)∧(db base m=lds++db base (nb 65536 l))∧(dn≤1099511627776))
  (fun⟨wr,lds,l,DA,dn,dc,OA,on,oc⟩=>nb 65536 l)
  (⟨v1,[],db 65536 m,A4,n4,c4,none,0,0⟩:World×List Nat×List Nat×Option Addr×Nat×Nat×Option Addr×Nat×Nat) ⟨hw1,(Own.nil _ _ _ _),ho4,(Wfb_db b16 m),(by rw [←hl4];exact db_top b16 m),(by rw [nb_db b16];rfl),(by have:=len_db16w4 hml2;omega)⟩ rfl ⟨rfl,rfl,rfl,trivial⟩ ?_
 rintro⟨wr,lds,l,DA,dn,dc,OA,on,oc⟩ ⟨hw1,hO,hD,hwl,htop,hdb,hdn⟩
 refine cw_re [(1,.int .i64 ((base:Nat):Int)),(6,.slice DA dn dc),(7,.slice OA on oc)] wr rfl ⟨rfl,rfl,rfl,trivial⟩ ?_
 have hll:=own_len1 hD
 have hon:=own_len1 hO
 rw [List.length_map] at hon
 have hll2:lds.length≤(db base m).length:=by rw [hdb,List.length_append];omega
 refine cw_seq (cw_seq ?_)
 by_cases hdn0:dn>0
 · 
  have hpos:nb 65536 l≠0:=nb_top_pos (by omega) (htop.resolve_left (by omega))
  have hr36:nb 65536 l%base<36:=Nat.lt_of_lt_of_le (Nat.mod_lt _ (by omega)) hbu
  refine cw_region (mv 1 rfl (pu (v:= .int .i64 ((dn:Nat):Int)) rfl (by kernel_rfl) (wl_cmp rfl rfl rfl true (cb_gt_t (a:=dn) (b:=0) rfl rfl (by omega)) (by decide) (ne_ (cw_true rfl (cw_skip (eo_then (cw_block (sr (mv 2 rfl ?_))))))))))
  have ow5:=hD
  refine wl_call rfl rfl (vs:= [.slice DA dn dc,.int .i64 ((base:Nat):Int)]) (by kernel_rfl) (by decide) (ref4_over ow5 hwl hbl hbu (by omega)) ?_
  rintro _ v6 ⟨es7,rfl,ho8,hl9,hwf10,hv11,uo12⟩
  refine ret_intro ?_
  have hw2:=uo12.ext hw1 (fun p hp=>(ow5.block p hp).1)
  refine mv 1 rfl (ne_ (sr (mv 2 rfl (wl_strix (bs:= [48,49,50,51,52,53,54,55,56,57,97,98,99,100,101,102,103,104,105,106,107,108,109,110,111,112,113,114,115,116,117,118,119,120,121,122]) (i:=nb 65536 l%base) rfl rfl rfl Tryz.underlying9 (by decide) (by omega) (by decide) (wl_bslice rfl rfl (by decide) (k:=1) (e:=5) [.int .u8 ((([48,49,50,51,52,53,54,55,56,57,97,98,99,100,101,102,103,104,105,106,107,108,109,110,111,112,113,114,115,116,117,118,119,120,121,122]).getD (nb 65536 l%base) 0:Nat):Int)] (fun _=>by kernel_rfl) fun g13 v14 nb=>?_)))))
  have hb15:=nb.bk
  have e16:=nb.ext
  clear nb
  have hw3:=hw2.trans e16
  have ow17:=((hO.updOT ow5 (by decide) uo12).ext e16)
  refine wl_app rfl rfl rfl un_u8 info8 rfl (by decide) (by decide) ow17 hw3.size [.int .u8 ((([48,49,50,51,52,53,54,55,56,57,97,98,99,100,101,102,103,104,105,106,107,108,109,110,111,112,113,114,115,116,117,118,119,120,121,122]).getD (nb 65536 l%base) 0:Nat):Int)] rfl (one_news _ hb15) rfl (by omega) (by decide) fun A18 c19 v20 ho21 uo22 kp23=>?_
  have hw4:=uo22.ext hw3 (fun p hp=>(ow17.block p hp).1)
  have ho24:Own v20 w.heap.size 5 1 A18 (on+1) c19 (((lds.map sgn)++ [([48,49,50,51,52,53,54,55,56,57,97,98,99,100,101,102,103,104,105,106,107,108,109,110,111,112,113,114,115,116,117,118,119,120,121,122]).getD (nb 65536 l%base) 0]).map B8):=by have h:=ho21;simp only [List.map_append,List.map_cons,List.map_nil] at h⊢;exact h
  refine mv 1 rfl (ne_ (cw_block ?_))
  refine cw_loop (T:=World×Nat)
   (fun⟨wr,k⟩=> [(1,.int .i64 ((base:Nat):Int)),(6,.slice DA k dc),(7,.slice A18 (on+1) c19)])
   (fun⟨wr,k⟩=>wr)
   (fun⟨wr,k⟩=>(Ext w wr)∧(Own wr w.heap.size 5 1 A18 (on+1) c19 (((lds.map sgn)++ [([48,49,50,51,52,53,54,55,56,57,97,98,99,100,101,102,103,104,105,106,107,108,109,110,111,112,113,114,115,116,117,118,119,120,121,122]).getD (nb 65536 l%base) 0]).map B8))∧(Own wr w.heap.size 3 1 DA k dc ((es7.take k).map I6))∧(k≤dn)∧(nb 65536 (es7.take k)=nb 65536 es7))
   (fun⟨wr,k⟩=>k)
   (⟨v20,dn⟩:World×Nat) ⟨hw4,ho24,(by rw [List.take_of_length_le (by omega)];exact ((ho8.ext e16).updOT ow17 (by decide) uo22)),(Nat.le_refl _),(by rw [List.take_of_length_le (by omega)])⟩ rfl ⟨rfl,rfl,rfl,trivial⟩ ?_
  rintro⟨wr,k⟩ ⟨hw1,hO,hD,hk,hvk⟩
  refine cw_re [(1,.int .i64 ((base:Nat):Int)),(6,.slice DA k dc),(7,.slice A18 (on+1) c19)] wr rfl ⟨rfl,rfl,rfl,trivial⟩ (cw_seq (cw_seq ?_))
  by_cases hk0:k>0
  · 
   by_cases hz8:(es7.take k).getD (k-1) 0=0
   · 
    refine cw_region (mv 1 rfl (pu (v:= .int .i64 ((k:Nat):Int)) rfl (by kernel_rfl) (wl_cmp rfl rfl rfl true (cb_gt_t (a:=k) (b:=0) rfl rfl (by omega)) (by decide) (mv 3 rfl (pu (v:= .int .i64 ((k:Nat):Int)) rfl (by kernel_rfl) (wl_ar rfl rfl rfl ((k-1:Nat):Int) (ai_sub (a:=k) (b:=1) rfl rfl (by omega) (by omega)) (by decide) ?_))))))
    obtain⟨p25,hp25,hc25⟩:=(hD).at1 (i:=k-1) (by omega)
    refine wl_idx rfl rfl rfl un_int4 sz_int4 (k-1) rfl (by omega) p25 hp25 (by decide) (wl_load rfl rfl (load_cell1 ag_int2 hc25) (by decide) (wl_cmp rfl rfl rfl true (cb_eq_t (a:=(es7.take k).getD (k-1) 0) (b:=0) rfl rfl (by omega)) (by decide) (pu (v:= .bool true) rfl (by kernel_rfl) (ne_ (cw_true rfl (cw_skip (eo_then (cw_block (cw_region (mv 2 rfl (pu (v:= .int .i64 ((k:Nat):Int)) rfl (by kernel_rfl) (wl_ar rfl rfl rfl ((k-1:Nat):Int) (ai_sub (a:=k) (b:=1) rfl rfl (by omega) (by omega)) (by decide) (wl_slice rfl rfl un_int4 sz_int4 (lo:=0) (hi:=k-1) rfl rfl (by omega) (by have:=(hD).rv.le;omega) (v:= .slice DA (k-1) dc) (slice_to8 _ _ _) (by decide) ?_)))))))))))))
    refine mv 1 rfl (wl_nil (eo_block_normal (eo_round (⟨wr,k-1⟩:World×Nat) ⟨hw1,hO,(by have h:=(hD.take1 (k:=k-1) (by omega));rwa [List.take_take,Nat.min_eq_left (by omega)] at h),(by omega),(by have h:=nb_take_zero 65536 es7 (k-1) (by omega) (by have h:=hz8;rwa [getD_take (by omega)] at h);rw [Nat.sub_add_cancel hk0] at h;rw [←h];exact hvk)⟩ (show k-1<k by omega) rfl ⟨rfl,rfl,rfl,trivial⟩)))
   · 
    refine cw_region (mv 1 rfl (pu (v:= .int .i64 ((k:Nat):Int)) rfl (by kernel_rfl) (wl_cmp rfl rfl rfl true (cb_gt_t (a:=k) (b:=0) rfl rfl (by omega)) (by decide) (mv 3 rfl (pu (v:= .int .i64 ((k:Nat):Int)) rfl (by kernel_rfl) (wl_ar rfl rfl rfl ((k-1:Nat):Int) (ai_sub (a:=k) (b:=1) rfl rfl (by omega) (by omega)) (by decide) ?_))))))
    obtain⟨p27,hp27,hc27⟩:=(hD).at1 (i:=k-1) (by omega)
    refine wl_idx rfl rfl rfl un_int4 sz_int4 (k-1) rfl (by omega) p27 hp27 (by decide) (wl_load rfl rfl (load_cell1 ag_int2 hc27) (by decide) (wl_cmp rfl rfl rfl false (cb_eq_f (a:=(es7.take k).getD (k-1) 0) (b:=0) rfl rfl (by omega)) (by decide) (pu (v:= .bool false) rfl (by kernel_rfl) (ne_ (cw_false rfl (cw_exit (eo_thenX (eo_loopX (eo_block_here (eo_block_normal (eo_round (⟨wr,lds++ [nb 65536 l%base],es7.take k,DA,k,dc,A18,on+1,c19⟩:World×List Nat×List Nat×Option Addr×Nat×Nat×Option Addr×Nat×Nat) ⟨hw1,(by rw [List.map_append,List.map_cons,List.map_nil,←sgns_get hr36];exact hO),hD,(Wfb_take hwf10 _),(Or.inr hz8),(by rw [hdb,List.append_assoc,hvk,hv11,db_pos hbl hpos];rfl),(by omega)⟩ (show nb 65536 (es7.take k)<nb 65536 l by rw [hvk,hv11];exact Nat.div_lt_self (by omega) (by omega)) rfl ⟨rfl,rfl,rfl,trivial⟩)))))))))))
  · 
   refine cw_region (mv 1 rfl (pu (v:= .int .i64 ((k:Nat):Int)) rfl (by kernel_rfl) (wl_cmp rfl rfl rfl false (cb_gt_f (a:=k) (b:=0) rfl rfl (by omega)) (by decide) (mv 8 rfl (pu (v:= .bool false) rfl (by kernel_rfl) (ne_ (cw_false rfl (cw_exit (eo_thenX (eo_loopX (eo_block_here (eo_block_normal (eo_round (⟨wr,lds++ [nb 65536 l%base],es7.take k,DA,k,dc,A18,on+1,c19⟩:World×List Nat×List Nat×Option Addr×Nat×Nat×Option Addr×Nat×Nat) ⟨hw1,(by rw [List.map_append,List.map_cons,List.map_nil,←sgns_get hr36];exact hO),hD,(Wfb_take hwf10 _),(Or.inl (by omega)),(by rw [hdb,List.append_assoc,hvk,hv11,db_pos hbl hpos];rfl),(by omega)⟩ (show nb 65536 (es7.take k)<nb 65536 l by rw [hvk,hv11];exact Nat.div_lt_self (by omega) (by omega)) rfl ⟨rfl,rfl,rfl,trivial⟩)))))))))))))
 · 
  have hl0:l= []:=List.length_eq_zero_iff.1 (by omega)
  have hldb:db base m=lds:=by rw [hdb,hl0];show lds++db base 0=lds;rw [db_zero,List.append_nil]
  refine cw_region (mv 1 rfl (pu (v:= .int .i64 ((dn:Nat):Int)) rfl (by kernel_rfl) (wl_cmp rfl rfl rfl false (cb_gt_f (a:=dn) (b:=0) rfl rfl (by omega)) (by decide) (ne_ (cw_false rfl (cw_exit (eo_thenX (eo_loopX (eo_block_here (eo_then (cw_seq (cw_seq ?_))))))))))))
  by_cases hon0:on=0
  · 
   refine cw_region (mv 1 rfl (pu (v:= .int .i64 ((on:Nat):Int)) rfl (by kernel_rfl) (wl_cmp rfl rfl rfl true (cb_eq_t (a:=on) (b:=0) rfl rfl (by omega)) (by decide) (ne_ (cw_true rfl (sr (mv 2 rfl (ne_ (cw_ret (eo_thenR (eo_ret [.string (strB ([48])),I0] rfl ⟨rfl,rfl,trivial⟩ ?_)))))))))))
   have hm0:m=0:=by rw [←db_eq_nil hbl,hldb];exact List.length_eq_zero_iff.1 (by omega)
   have hstr:([48]:List Nat)=txtN base m:=by subst hm0;rfl
   exact⟨_,rfl,⟨_,_,rfl,(show Value.string _=Value.string _ from congrArg (fun l=>Value.string (strB l)) hstr),rfl⟩,hw1⟩
  · 
   refine cw_region (mv 1 rfl (pu (v:= .int .i64 ((on:Nat):Int)) rfl (by kernel_rfl) (wl_cmp rfl rfl rfl false (cb_eq_f (a:=on) (b:=0) rfl rfl (by omega)) (by decide) (ne_ (cw_false rfl (cw_skip (eo_then (sr (mv 1 rfl (pu (v:= .int .i64 ((on:Nat):Int)) rfl (by kernel_rfl) (wl_make rfl (k:=on) rfl rfl rfl un_u8 info8 rfl (by decide) (by omega) (by decide) fun g28 v29 hg30 hb31 e32=>?_)))))))))))
   rw [replicate_B8] at hb31
   have ge33:w.heap.size≤g28:=by rw [←hg30];exact hw1.size
   have ne34:∀p,OA=some p→p.block≠g28:=fun p hp=>by have:=((hO).block p hp).2;omega
   clear hg30
   have hw2:=hw1.trans e32
   refine mv 1 rfl (ne_ (cw_seq (sr (mv 1 rfl (ne_ (cw_block ?_))))))
   refine cw_loop (T:=World×Nat×List Nat)
    (fun⟨wr,i,hi⟩=> [(7,.slice OA on oc),(9,.slice (some ⟨g28,0,none⟩) on on),(10,.int .i64 ((i:Nat):Int))])
    (fun⟨wr,i,hi⟩=>wr)
    (fun⟨wr,i,hi⟩=>(Ext w wr)∧(Own wr w.heap.size 5 1 OA on oc ((lds.map sgn).map B8))∧(Bk wr g28 5 (hi.map B8))∧(hi.length=on)∧(i≤on)∧(∀j,j<i→hi.getD (on-1-j) 0=(lds.map sgn).getD j 0))
    (fun⟨wr,i,hi⟩=>on-i)
    (⟨v29,0,_⟩:World×Nat×List Nat) ⟨hw2,(hO.ext e32),hb31,(List.length_replicate (n:=on) (a:=0)),(Nat.zero_le _),(fun j hj=>absurd hj (Nat.not_lt_zero _))⟩ rfl ⟨rfl,rfl,rfl,trivial⟩ ?_
   rintro⟨wr,i,hi⟩ ⟨hw1,hO,hb,hhl,hii,hrev⟩
   refine cw_re [(7,.slice OA on oc),(9,.slice (some ⟨g28,0,none⟩) on on),(10,.int .i64 ((i:Nat):Int))] wr rfl ⟨rfl,rfl,rfl,trivial⟩ (cw_seq (cw_seq ?_))
   by_cases hlt:i<on
   · 
    refine cw_region (mv 2 rfl (pu (v:= .int .i64 ((on:Nat):Int)) rfl (by kernel_rfl) (wl_cmp rfl rfl rfl true (cb_lt_t (a:=i) (b:=on) rfl rfl (by omega)) (by decide) (ne_ (cw_true rfl (cw_skip (eo_then (cw_seq (cw_block ?_)))))))))
    have hb8:(lds.map sgn).getD i 0≤255:=sgn_map_le (fun d hd=>by have:=Wfb_db hbl m d (by rw [hldb];exact hd);omega)
    refine cw_region (mv 2 rfl (pu (v:= .int .i64 ((on:Nat):Int)) rfl (by kernel_rfl) (wl_ar rfl rfl rfl ((on-1:Nat):Int) (ai_sub (a:=on) (b:=1) rfl rfl (by omega) (by omega)) (by decide) (mv 1 rfl (wl_ar rfl rfl rfl (((on-1)-i:Nat):Int) (ai_sub (a:=on-1) (b:=i) rfl rfl (by omega) (by omega)) (by decide) (mv 2 rfl ?_))))))
    obtain⟨p35,hp35,hc35⟩:=(hO).at1 (i:=i) (by omega)
    refine wl_idx rfl rfl rfl un_u8 sz_u8 i rfl (by omega) p35 hp35 (by decide) (wl_load rfl rfl (load_cell1 ag_u8 hc35) (by decide) (wl_idx rfl rfl rfl un_u8 sz_u8 ((on-1)-i) rfl (by omega) ⟨g28,(on-1)-i,none⟩ (arr_at _ _) (by decide) ?_))
    have hb37:=hb
    refine wl_stored1 rfl rfl rfl sz_u8 rfl hb37 (len_map (by rw [hhl];omega)) rfl ((hi.set ((on-1)-i) ((lds.map sgn).getD i 0)).map B8) (map_B8_set _ _ _) fun v36 hb38 u39 hs40=>?_
    have hw2:=u39.ext hw1 ge33
    refine wl_nil (eo_block_normal (eo_then (cw_region (mv 1 rfl (wl_ar rfl rfl rfl ((i+1:Nat):Int) (ai_add (a:=i) (b:=1) rfl rfl (by omega)) (by decide) (mv 1 rfl (wl_nil (eo_round (⟨v36,i+1,hi.set ((on-1)-i) ((lds.map sgn).getD i 0)⟩:World×Nat×List Nat) ⟨hw2,(hO.upd u39 ne34),hb38,(len_set (l:=hi) (hhl)),(by omega),(rev_step hhl (by omega) hrev)⟩ (show on-(i+1)<on-i by omega) rfl ⟨rfl,rfl,rfl,trivial⟩))))))))
   · 
    refine cw_region (mv 2 rfl (pu (v:= .int .i64 ((on:Nat):Int)) rfl (by kernel_rfl) (wl_cmp rfl rfl rfl false (cb_lt_f (a:=i) (b:=on) rfl rfl (by omega)) (by decide) (ne_ (cw_false rfl (cw_exit (eo_thenX (eo_loopX (eo_block_here (eo_then (sr (mv 1 rfl (wl_toStr (bs:=hi) (lb:=0) rfl rfl (Own.mk_ (Nat.zero_le _) hb (Nat.le_refl _) (by rw [len_maxLen];omega) (by rw [List.length_map,hhl,Nat.mul_one]) (by rw [Nat.mul_one,List.take_of_length_le (by rw [List.length_map,hhl];exact Nat.le_refl _)])) (by decide) ?_)))))))))))))
    refine mv 2 rfl (ne_ (cw_ret (eo_ret [.string (strB hi),I0] rfl ⟨rfl,rfl,trivial⟩ ?_)))
    have hm0:m≠0:=fun e=>hon0 (by have h:=hldb;rw [e,db_zero] at h;rw [←hon,←h];rfl)
    have hstr:hi=txtN base m:=by rw [txtN,if_neg hm0,txt,hldb,List.map_reverse];exact rev_done hhl (by rw [List.length_map];omega) (fun j hj=>hrev j (by omega))
    exact⟨_,rfl,⟨_,_,rfl,(show Value.string _=Value.string _ from congrArg (fun l=>Value.string (strB l)) hstr),rfl⟩,hw1⟩
set_option maxHeartbeats 4000000 in
theorem ref4_Dec {w:World}{A:Option Addr}{an ac m:Nat}(hx:Wi w A an ac m) (hal:an≤1048576):
    Calls Tryz.prog 149 #[.slice A an ac] w (Gv w (Is (.string (strB (txtN 10 m))))):=by
 refine sx_enter Tryz.func149 rfl (n:=11) rfl (bq rfl) (args:= [.slice A an ac]) (cw_keep [(0,.slice A an ac)] ⟨rfl,trivial⟩ (sr (mv 1 rfl (ne_ (sr (mv 1 rfl (cl (vs:= [.slice A an ac,.int .i64 10]) (Ext.refl w) (ref4_Text hx hal (by decide) (by decide)) rfl (by kernel_rfl) fun xr3 v1 r3 e2 hw1=>?_)))))))
 obtain⟨_,_,rfl,rfl,rfl⟩:=r3
 refine mv 1 rfl (pu (v:= .string (strB (txtN 10 m))) rfl (by kernel_rfl) (pu (v:= .int .i64 0) rfl (by kernel_rfl) (mv 2 rfl (ne_ (sr (mv 2 rfl (ne_ (cw_ret (eo_ret [.string (strB (txtN 10 m))] rfl ⟨rfl,trivial⟩ ?_)))))))))
 exact⟨_,rfl,rfl,hw1⟩
end Go.Proofs.YthggegdkpalgbaaGreatDoor
