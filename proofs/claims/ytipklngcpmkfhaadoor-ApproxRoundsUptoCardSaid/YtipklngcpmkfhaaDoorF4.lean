/- Parts Lw7t, Lw7u, Lw7v, joined. -/
import Derived.Test.YtipklngcpmkfhaaDoorF3

namespace Go.Proofs.YtipklngcpmkfhaaDoor
open Go.RowKit
theorem tenT {k:Nat}:(∀b,b∈ [49]++List.replicate k 48→b<256)∧ztl ([49]++List.replicate k 48)= [49]++List.replicate k 48∧Good 10 ([49]++List.replicate k 48)∧zval ([49]++List.replicate k 48)=((10^k:Nat):Int):=by
 have hd:Digs ([49]++List.replicate k 48):=fun c hc=>by
  rcases List.mem_append.1 hc with h | h
  ·rw [List.mem_singleton] at h;omega
  ·rw [List.eq_of_mem_replicate h];decide
 have hv:vald 10 (([49]++List.replicate k 48).map dv)=10^k:=by
  induction k with
  | zero=>rfl
  | succ k ih=>
   rw [List.replicate_succ',←List.append_assoc,List.map_append,List.map_cons,List.map_nil,vald_snoc,ih (fun c hc=>hd c (by rw [List.replicate_succ',←List.append_assoc];exact List.mem_append_left _ hc)),Nat.pow_succ]
   rfl
 have hz:ztl ([49]++List.replicate k 48)= [49]++List.replicate k 48:=by
  unfold ztl
  rw [if_neg (by show¬ [49]= [43];decide),if_neg (by show¬ [49]= [45];decide),if_neg (by cases k with | zero=>decide | succ k=>cases k with | zero=>decide | succ k=>show¬ [49,48,48]= [226,136,146];decide)]
 have hn:zng ([49]++List.replicate k 48)=false:=by
  unfold zng
  rw [if_neg (by show¬ [49]= [43];decide),if_neg (by show¬ [49]= [45];decide),if_neg (by cases k with | zero=>decide | succ k=>cases k with | zero=>decide | succ k=>show¬ [49,48,48]= [226,136,146];decide)]
 refine⟨fun b hb=>by have:=hd b hb;omega,hz,hd.good (by simp),?_⟩
 rw [zval_pos hz hn,hv]
set_option maxHeartbeats 4000000 in
theorem g_ten7 {w:World}{k u b:Nat}(hu:10^k=u) (hb:b≤w.heap.size) (hk:k≤1073741824):
    Calls Tryd.prog 24 #[.int .i64 ((k:Nat):Int)] w (Gv w (ZR b ((u:Nat):Int))):=by
 refine sx_enter Tryd.func24 rfl (n:=23) rfl (bq rfl) (args:= [.int .i64 ((k:Nat):Int)]) (cw_keep [(0,.int .i64 ((k:Nat):Int))] ⟨rfl,trivial⟩ (sr (al [F0,S0] (Ext.refl w) (fun _=>by kernel_rfl) rfl fun g1 v2 hb4 ge5 e3 hw1=>(ne_ (sr (wl_bslice rfl rfl (by decide) (k:=1) (e:=5) [.int .u8 49] (fun _=>by kernel_rfl) fun g6 v7 nb=>?_))))))
 have hb8:=nb.bk
 have e9:=nb.ext
 have ge10:w.heap.size≤g6:=by rw [←nb.at_];exact hw1.size
 clear nb
 have hw2:=hw1.trans e9
 refine mv 1 rfl (ne_ (cw_seq (cw_seq ?_)))
 have ho11:Own v7 w.heap.size 5 1 (some ⟨g6,0,none⟩) 1 1 (([49]:List Nat).map B8):=Own.mk_ ge10 hb8 (Nat.le_refl _) (by rw [len_maxLen];omega) rfl rfl
 refine cw_region (mv 1 rfl (ne_ (cw_block ?_)))
 refine cw_loop (T:=World×Nat×Option Addr×Nat×Nat)
  (fun⟨wr,i,OA,on,oc⟩=> [(0,.int .i64 ((k:Nat):Int)),(2,.pointer (some ⟨g1,0,none⟩)),(3,.slice OA on oc),(4,.int .i64 ((i:Nat):Int))])
  (fun⟨wr,i,OA,on,oc⟩=>wr)
  (fun⟨wr,i,OA,on,oc⟩=>(Ext w wr)∧(Own wr w.heap.size 5 1 OA on oc (([49]++List.replicate i 48).map B8))∧(i≤k)∧(Bk wr g1 24 [F0,S0]))
  (fun⟨wr,i,OA,on,oc⟩=>k-i)
  (⟨v7,0,(some ⟨g6,0,none⟩),1,1⟩:World×Nat×Option Addr×Nat×Nat) ⟨hw2,ho11,(Nat.zero_le _),(hb4.ext e9)⟩ rfl ⟨rfl,rfl,rfl,rfl,trivial⟩ ?_
 rintro⟨wr,i,OA,on,oc⟩ ⟨hw1,hO,hi,hbx⟩
 refine cw_re [(0,.int .i64 ((k:Nat):Int)),(2,.pointer (some ⟨g1,0,none⟩)),(3,.slice OA on oc),(4,.int .i64 ((i:Nat):Int))] wr rfl ⟨rfl,rfl,rfl,rfl,trivial⟩ ?_
 have hon:on=i+1:=by have h:=own_len hO;rw [List.length_append,List.length_replicate] at h;simp at h;omega
 refine cw_seq (cw_seq ?_)
 by_cases hlt:i<k
 · 
  refine cw_region (mv 2 rfl (wl_cmp rfl rfl rfl true (cb_lt_t (a:=i) (b:=k) rfl rfl (by omega)) (by decide) (ne_ (cw_true rfl (cw_skip (eo_then (cw_seq (cw_block (cw_region (mv 1 rfl (wl_bslice rfl rfl (by decide) (k:=1) (e:=5) [.int .u8 48] (fun _=>by kernel_rfl) fun g12 v13 nb=>?_)))))))))))
  have hb14:=nb.bk
  have e15:=nb.ext
  have ge16:w.heap.size≤g12:=by rw [←nb.at_];exact hw1.size
  clear nb
  have hw2:=hw1.trans e15
  have ow17:=(hO.ext e15)
  refine wl_app rfl rfl rfl un_u8 info8 rfl (by decide) (by decide) ow17 hw2.size [.int .u8 48] rfl (one_news _ hb14) rfl (by omega) (by decide) fun A18 c19 v20 ho21 uo22 kp23=>?_
  have hw3:=uo22.ext hw2 (fun p hp=>(ow17.block p hp).1)
  have ho24:Own v20 w.heap.size 5 1 A18 (on+1) c19 ((([49]++List.replicate i 48)++ [48]).map B8):=by have h:=ho21;simp only [List.map_append,List.map_cons,List.map_nil] at h⊢;exact h
  refine mv 1 rfl (wl_nil (eo_block_normal (eo_then (cw_region (mv 1 rfl (wl_ar rfl rfl rfl ((i+1:Nat):Int) (ai_add (a:=i) (b:=1) rfl rfl (by omega)) (by decide) (mv 1 rfl (wl_nil (eo_round (⟨v20,i+1,A18,on+1,c19⟩:World×Nat×Option Addr×Nat×Nat) ⟨hw3,(by rw [List.replicate_succ',←List.append_assoc];exact ho24),(by omega),((hbx.ext e15).updO uo22 (own_ne ow17 (hbx.ext e15) (by decide)))⟩ (show k-(i+1)<k-i by omega) rfl ⟨rfl,rfl,rfl,rfl,trivial⟩)))))))))
 · 
  have hik:i=k:=by omega
  rw [hik] at hO
  obtain⟨ht1,ht2,ht3,ht4⟩:=tenT (k:=k)
  rw [hu] at ht4
  refine cw_region (mv 2 rfl (wl_cmp rfl rfl rfl false (cb_lt_f (a:=i) (b:=k) rfl rfl (by omega)) (by decide) (ne_ (cw_false rfl (cw_exit (eo_thenX (eo_loopX (eo_block_here (eo_then (sr (mv 1 rfl (wl_toStr rfl rfl hO (by decide) (cl (vs:= [.string (strB ([49]++List.replicate k 48))]) hw1 (rx_zRead hw1.size ht1 (by simp;omega) ht2 ht3 ht4) rfl (by kernel_rfl) fun xr27 v25 r27 e26 hw2=>?_)))))))))))))
  obtain⟨_,_,rfl,⟨s29,A29,n29,c29,rfl,z29⟩,rfl⟩:=r27
  refine mv 1 rfl (pu (v:= .agg #[.bool s29,.slice A29 n29 c29]) rfl (by kernel_rfl) (pu (v:= .int .i64 0) rfl (by kernel_rfl) (alq [F0,S0] hw2 (hbx.ext e26).lt (fun _=>by kernel_rfl) rfl fun g30 v31 hb33 ge34 q35 e32 hw3=>(so aggInt hb33 [.bool s29,.slice A29 n29 c29] hw3 ge34 rfl rfl rfl rfl fun v36 hb38 u39 hw4=>(mv 1 rfl (ne_ (sr (lo aggInt hb38 [.bool s29,.slice A29 n29 c29] rfl rfl rfl ?_))))))))
  have hb42:=((hbx.ext (e26.trans e32)).updN u39 (by omega))
  refine so aggInt hb42 [.bool s29,.slice A29 n29 c29] hw4 ge5 rfl rfl rfl rfl fun v41 hb43 u44 hw5=>(ne_ (cw_ret (eo_ret [.agg #[.bool s29,.slice A29 n29 c29]] rfl ⟨⟨_,rfl,load_agg aggInt hb43 [.bool s29,.slice A29 n29 c29] rfl (bq rfl) rfl⟩,trivial⟩ ?_)))
  exact⟨_,rfl,⟨_,_,_,_,rfl,((((z29.ext e32).updT hb33 u39).updT hb42 u44)).mono hb⟩,hw5⟩
set_option maxHeartbeats 4000000 in
theorem g_twice7 {w:World}{b:Nat}(hb:b≤w.heap.size){sa:Bool}{Aa:Option Addr}{na ca:Nat}{x:Int}(hx:Zi w sa Aa na ca x) (la:na≤1073741824):
    Calls Tryd.prog 26 #[.agg #[.bool sa,.slice Aa na ca]] w (Gv w (ZR b (x+x))):=by
 have Lx:ln x≤1073741824:=Nat.le_trans hx.ln la
 refine sx_enter Tryd.func26 rfl (n:=6) rfl (bq rfl) (args:= [.agg #[.bool sa,.slice Aa na ca]]) (cw_keep [(0,.agg #[.bool sa,.slice Aa na ca])] ⟨rfl,trivial⟩ (sr (bx [.bool sa,.slice Aa na ca] (Ext.refl w) rfl rfl rfl fun g1 v2 hb4 ge5 e3 hw1=>(alq [F0,S0] hw1 hb4.lt (fun _=>by kernel_rfl) rfl fun g6 v7 hb9 ge10 q11 e8 hw2=>(ne_ (sr (lo aggInt (hb4.ext e8) [.bool sa,.slice Aa na ca] rfl rfl rfl (lo aggInt (hb4.ext e8) [.bool sa,.slice Aa na ca] rfl rfl rfl ?_))))))))
 have L12:ln (x+x)≤1073741825:=Nat.le_trans (ln_add Lx Lx) (by decide)
 refine cl (vs:= [.agg #[.bool sa,.slice Aa na ca],.agg #[.bool sa,.slice Aa na ca]]) hw2 (g_zint_Add hw2.size (hx.ext hw2) (lx_ la rfl) (hx.ext hw2) (lx_ la rfl)) rfl (by kernel_rfl) fun xr15 v13 r15 e14 hw3=>?_
 obtain⟨s16,A16,n16,c16,rfl,z16⟩:=r15
 have hb18:=(hb9.ext e14)
 refine so aggInt hb18 [.bool s16,.slice A16 n16 c16] hw3 ge10 rfl rfl rfl rfl fun v17 hb19 u20 hw4=>(ne_ (cw_ret (eo_ret [.agg #[.bool s16,.slice A16 n16 c16]] rfl ⟨⟨_,rfl,load_agg aggInt hb19 [.bool s16,.slice A16 n16 c16] rfl (bq rfl) rfl⟩,trivial⟩ ?_)))
 exact⟨_,rfl,⟨_,_,_,_,rfl,((z16.updT hb18 u20)).mono hb⟩,hw4⟩
structure SciF (t:List Nat) (n q X P:Nat):Prop where
 b256:∀b,b∈t→b<256
 hp:P=if 1<n then n+1 else n
 len:t.length=P+1+(txtN 10 X).length
 d:∀j,j<n→t.getD (if j=0 then 0 else j+1) 0=(dgs n q).getD j 0
 dot:1<n→t.getD 1 0=46
 e:t.getD P 0=101
 x:∀i,i<(txtN 10 X).length→t.getD (P+1+i) 0=(txtN 10 X).getD i 0
theorem sciF_of {n q X:Nat}(hn:1≤n):SciF (sciD q n++([101]++txtN 10 X)) n q X (if 1<n then n+1 else n):=by
 have hT:=txtN_digs (m:=X)
 generalize hTX:txtN 10 X=T at hT
 have hl:=dgs_len n q
 have hdg:Digs (dgs n q):=fun c hc=>dgs_digit hc
 unfold sciD
 generalize hD:dgs n q=D at hl hdg
 obtain⟨c,r,rfl⟩:∃c r,D=c::r:=by
  cases D with
  | nil=>simp at hl;omega
  | cons c r=>exact⟨c,r,rfl⟩
 have hrl:r.length=n-1:=by rw [List.length_cons] at hl;omega
 have h256:∀b,b∈c::r→b<256:=fun b hb=>by have:=hdg b hb;omega
 have hT256:∀b,b∈T→b<256:=fun b hb=>by have:=hT.1 b hb;omega
 by_cases h1:1<n
 ·rw [if_pos h1,if_pos h1]
  have e:List.take 1 (c::r)++([46]++List.drop 1 (c::r))++([101]++T)=c::46::(r++(101::T)):=by simp
  rw [e]
  have hr:∀i,(c::46::(r++(101::T))).getD (i+2) 0=(r++(101::T)).getD i 0:=fun i=>rfl
  have hm:(r++(101::T)).getD (n-1) 0=101:=by rw [←hrl];have:=getD_appR (l:=r) (r:=101::T) (i:=0);rw [Nat.add_zero] at this;rw [this];rfl
  refine⟨fun b hb=>?_,by rw [if_pos h1],?_,fun j hj=>?_,fun _=>rfl,?_,fun i hi=>?_⟩
  ·rcases List.mem_cons.1 hb with rfl | hb
   ·exact h256 _ List.mem_cons_self
   rcases List.mem_cons.1 hb with rfl | hb
   ·decide
   rcases List.mem_append.1 hb with hb | hb
   ·exact h256 _ (List.mem_cons_of_mem _ hb)
   rcases List.mem_cons.1 hb with rfl | hb
   ·decide
   ·exact hT256 _ hb
  ·simp only [List.length_cons,List.length_append];rw [hTX];omega
  ·rw [hD]
   cases j with
   | zero=>rfl
   | succ j=>
    rw [if_neg (by omega)]
    show (r++(101::T)).getD j 0=r.getD j 0
    exact getD_appL (by omega)
  ·rw [show n+1=(n-1)+2 by omega,hr,hm]
  ·rw [hTX] at hi⊢
   rw [show n+1+1+i=(n+i)+2 by omega,hr,show n+i=r.length+(i+1) by omega,getD_appR]
   rfl
 ·rw [if_neg h1,if_neg h1]
  have hr0:r= []:=List.length_eq_zero_iff.1 (by omega)
  subst hr0
  have hn1:n=1:=by omega
  subst hn1
  have e:List.take 1 [c]++ []++([101]++T)=c::101::T:=by simp
  rw [e]
  refine⟨fun b hb=>?_,by rw [if_neg h1],?_,fun j hj=>?_,fun h=>absurd h h1,rfl,fun i hi=>?_⟩
  ·rcases List.mem_cons.1 hb with rfl | hb
   ·exact h256 _ List.mem_cons_self
   rcases List.mem_cons.1 hb with rfl | hb
   ·decide
   ·exact hT256 _ hb
  ·simp only [List.length_cons];rw [hTX];omega
  ·rw [hD,show j=0 by omega];rfl
  ·rw [hTX] at hi⊢
   rw [show 1+1+i=i+2 by omega];rfl
theorem sg_first {sn:Bool}{t:List Nat}{n q X P:Nat}(h:SciF t n q X P) (hn:1≤n):((if sn then [45] else [])++t≠ [])∧(((if sn then [45] else [])++t).getD 0 0=45↔sn=true):=by
 have hd:t.getD 0 0=(dgs n q).getD 0 0:=h.d 0 (by omega)
 have hg:=dgs_digit (getD_mem0 (l:=dgs n q) (i:=0) (by rw [dgs_len];omega))
 have hl:=h.len
 cases sn
 ·refine⟨fun e=>?_,?_⟩
  ·have h0:t.length=0:=congrArg List.length e
   omega
  ·show t.getD 0 0=45↔_
   constructor
   ·intro e;omega
   ·intro e;cases e
 ·exact⟨by simp,fun _=>rfl,fun _=>rfl⟩
theorem first_ne {n q:Nat}(hn:1≤n) (h1:10^(n-1)≤q) (h2:q<10^n):(dgs n q).getD 0 0≠48:=by
 rw [dgs_get (by omega)]
 have h3:1≤q/10^(n-1):=(Nat.le_div_iff_mul_le (pow_pos10 _)).2 (by omega)
 have h4:q/10^(n-1)<10:=(Nat.div_lt_iff_lt_mul (pow_pos10 _)).2 (by rw [←Nat.pow_succ',Nat.succ_eq_add_one,show n-1+1=n by omega];exact h2)
 rw [show n-1-0=n-1 by omega,Nat.mod_eq_of_lt h4]
 omega
theorem lead_txt {X:Nat}(h:1<(txtN 10 X).length):(txtN 10 X).getD 0 0≠48:=by
 by_cases h0:X=0
 ·subst h0;exact absurd h (by decide)
 ·obtain⟨k,_,h1,h2,h3⟩:=dL_ex (m:=X) (by omega)
  rw [h3]
  exact first_ne (by omega) h1 h2
theorem sgnT {sn:Bool}{n q:Nat}(hn:1≤n) (h2:q<10^n):(∀b,b∈(if sn then [45] else [])++dgs n q→b<256)∧ztl ((if sn then [45] else [])++dgs n q)=dgs n q∧Good 10 (dgs n q)∧zval ((if sn then [45] else [])++dgs n q)=sg sn q:=by
 have hd:Digs (dgs n q):=fun c hc=>dgs_digit hc
 have h0:dgs n q≠ []:=fun e=>by have:=congrArg List.length e;rw [dgs_len] at this;simp at this;omega
 have hv:=dgs_vald h2
 have hf:=hd _ (getD_mem0 (l:=dgs n q) (i:=0) (by rw [dgs_len];omega))
 cases sn
 ·have e1:∀c:Nat,c=43∨c=45→¬(dgs n q).take 1= [c]:=fun c hc e=>by
   rw [sciD_ne hn,List.cons.injEq] at e;omega
  have e3:¬(dgs n q).take 3= [226,136,146]:=fun e=>by
   have h:=congrArg (fun l=>l.getD 0 0) e
   match hD:dgs n q with
   | []=>exact h0 hD
   | c::r=>
    rw [hD] at h hf
    have:c=226:=h
    have:48≤c∧c≤57:=hf
    omega
  have hz:ztl (dgs n q)=dgs n q:=by unfold ztl;rw [if_neg (e1 43 (Or.inl rfl)),if_neg (e1 45 (Or.inr rfl)),if_neg e3]
  have hng:zng (dgs n q)=false:=by unfold zng;rw [if_neg (e1 43 (Or.inl rfl)),if_neg (e1 45 (Or.inr rfl)),if_neg e3]
  refine⟨fun b hb=>by have:=hd b hb;omega,hz,hd.good h0,?_⟩
  show zval (dgs n q)=_
  rw [zval_pos hz hng,hv,sg_false]
 ·have hz:ztl ([45]++dgs n q)=dgs n q:=by
   unfold ztl
   rw [if_neg (by show¬ [45]= [43];decide),if_pos (show List.take 1 ([45]++dgs n q)= [45] from rfl)];rfl
  have hng:zng ([45]++dgs n q)=true:=by
   unfold zng
   rw [if_neg (by show¬ [45]= [43];decide),if_pos (show List.take 1 ([45]++dgs n q)= [45] from rfl)]
  refine⟨fun b hb=>?_,hz,hd.good h0,?_⟩
  ·rcases List.mem_append.1 hb with hb | hb
   ·rw [List.mem_singleton.1 hb];decide
   ·have:=hd b hb;omega
  ·show zval ([45]++dgs n q)=_
   rw [zval_neg hz hng,hv,sg_true]
set_option maxHeartbeats 8000000 in
set_option maxRecDepth 20000 in
theorem g_written7 {w:World}{sn:Bool}{t:List Nat}{n q X P b:Nat}(hb:b≤w.heap.size) (hF:SciF t n q X P) (hb0:∀b,b∈((if sn then [45] else [])++t)→b<256) (hn1:1≤n) (hn40:n≤40) (hq1:10^(n-1)≤q) (hq2:q<10^n) (hX:X≤1073741824) (hTX:(txtN 10 X).length≤65):
    Calls Tryd.prog 20 #[.string (strB ((if sn then [45] else [])++t)),.int .i64 ((n:Nat):Int)] w (Gv w (T3 (ZR b (sg sn q)) (Is (.int .i64 ((X:Nat):Int))) (Is (.bool true)))):=by
 have htb:t.length≤200:=by have:=hF.len;have:=hF.hp;split at this <;> omega
 refine sx_enter Tryd.func20 rfl (n:=162) rfl (bq rfl) (args:= [.string (strB ((if sn then [45] else [])++t)),.int .i64 ((n:Nat):Int)]) (cw_keep [(0,.string (strB ((if sn then [45] else [])++t))),(1,.int .i64 ((n:Nat):Int))] ⟨rfl,rfl,trivial⟩ (sr (al [F0,S0] (Ext.refl w) (fun _=>by kernel_rfl) rfl fun g1 v2 hb4 ge5 e3 hw1=>(mv 2 rfl (ne_ (cw_seq ?_))))))
 obtain⟨hne,h45⟩:=sg_first (sn:=sn) hF hn1
 have hl0:0<(((if sn then [45] else [])++t)).length:=List.length_pos_iff.2 hne
 have hc0:(((if sn then [45] else [])++t)).getD 0 0<256:=hb0 _ (getD_mem0 hl0)
 rcases sn with _ | _
 · 
  have h45t:¬(((if false then [45] else [])++t)).getD 0 0=45:=fun e=>by have:=h45.1 e;cases this
  refine cw_region (mv 1 rfl (wl_streq (a:=((if false then [45] else [])++t)) (b:= []) rfl rfl rfl hb0 (by decide) true (strE_neq_f (hne)) (by decide) (mv 2 rfl (wl_strix (bs:=((if false then [45] else [])++t)) (i:=0) rfl rfl rfl Tryd.underlying9 hb0 (by omega) (by decide) (wl_cmp rfl rfl rfl false (cb_eq_f (a:=((if false then [45] else [])++t).getD 0 0) (b:=45) rfl rfl (by omega)) (by decide) (pu (v:= .bool false) rfl (by kernel_rfl) (mv 1 rfl (ne_ (cw_seq (sr (mv 1 rfl (ne_ (cw_false rfl ?_)))))))))))))
  refine cw_skip (eo_then (cw_seq (cw_keep [(0,.string (strB ((if false then [45] else [])++t))),(1,.int .i64 ((n:Nat):Int)),(4,.pointer (some ⟨g1,0,none⟩)),(5,.int .i64 0),(6,.bool false),(15,.string (strB ((if false then [45] else [])++t))),(16,.bool true),(17,.bool true),(18,.string (strB ((if false then [45] else [])++t))),(19,.int .u8 ((((if false then [45] else [])++t).getD 0 0:Nat):Int)),(20,.bool false),(21,.bool false),(7,.bool false),(22,.bool false)] ⟨rfl,rfl,rfl,rfl,rfl,rfl,rfl,rfl,rfl,rfl,rfl,rfl,rfl,rfl,trivial⟩ ?_)))
  have hst:(((if false then [45] else [])++t):List Nat)=t:=rfl
  rw [hst]
  refine cw_region (mv 1 rfl (ne_ (cw_seq (sr (mv 1 rfl (ne_ (cw_false rfl (cw_skip (eo_then (sr (mv 1 rfl (ne_ (cw_seq ?_)))))))))))))
  refine sr (mv 1 rfl (ne_ (cw_block ?_)))
  refine cw_loop (T:=World×Nat×Nat×Option Addr×Nat×Nat)
   (fun⟨wr,j,i,OA,on,oc⟩=> [(0,.string (strB t)),(1,.int .i64 ((n:Nat):Int)),(4,.pointer (some ⟨g1,0,none⟩)),(8,.slice OA on oc),(9,.int .i64 ((i:Nat):Int)),(10,.int .i64 ((j:Nat):Int))])
   (fun⟨wr,j,i,OA,on,oc⟩=>wr)
   (fun⟨wr,j,i,OA,on,oc⟩=>(Ext w wr)∧(Own wr w.heap.size 5 1 OA on oc (([]++(dgs n q).take j).map B8))∧(j≤n)∧(i=if j≤1 then j else j+1)∧(Bk wr g1 24 [F0,S0]))
   (fun⟨wr,j,i,OA,on,oc⟩=>n-j)
   (⟨v2,0,0,none,0,0⟩:World×Nat×Nat×Option Addr×Nat×Nat) ⟨hw1,(by rw [List.take_zero,List.append_nil];exact (Own.nil v2 w.heap.size 5 1)),(Nat.zero_le _),rfl,hb4⟩ rfl ⟨rfl,rfl,rfl,rfl,rfl,rfl,trivial⟩ ?_
  rintro⟨wr,j,i,OA,on,oc⟩ ⟨hw1,hO,hj,hi,hbx⟩
  refine cw_re [(0,.string (strB t)),(1,.int .i64 ((n:Nat):Int)),(4,.pointer (some ⟨g1,0,none⟩)),(8,.slice OA on oc),(9,.int .i64 ((i:Nat):Int)),(10,.int .i64 ((j:Nat):Int))] wr rfl ⟨rfl,rfl,rfl,rfl,rfl,rfl,trivial⟩ ?_
  have hon:on≤j+1:=by have h:=own_len hO;rw [List.length_append,List.length_take] at h;simp at h;omega
  refine cw_seq (cw_seq ?_)
  by_cases hjn:j<n
  · 
   refine cw_region (mv 2 rfl (wl_cmp rfl rfl rfl true (cb_lt_t (a:=j) (b:=n) rfl rfl (by omega)) (by decide) (ne_ (cw_true rfl (cw_skip (eo_then (cw_seq (cw_block (cw_seq (cw_seq ?_))))))))))
   by_cases hj1:j=1
   · 
    have hdot:=hF.dot (by omega)
    have hi1:i=1:=by rw [hi];split <;> omega
    refine cw_region (mv 1 rfl (wl_cmp rfl rfl rfl true (cb_eq_t (a:=j) (b:=1) rfl rfl (by omega)) (by decide) (ne_ (cw_true rfl (cw_seq (cw_seq ?_))))))
    have hti:i<t.length:=by have:=hF.len;have:=hF.hp;split at this <;> omega
    have hgi:t.getD i 0=46:=by rw [hi1];exact hdot
    refine cw_region (mv 2 rfl (wl_pureE rfl rfl (v:= .int .i64 (((strB t).size:Nat):Int)) (v':= .int .i64 ((t.length:Nat):Int)) (by decide) (by kernel_rfl) (by rw [strB_size]) (wl_cmp rfl rfl rfl false (cb_ge_f (a:=i) (b:=t.length) rfl rfl (by omega)) (by decide) (mv 3 rfl (wl_strix (bs:=t) (i:=i) rfl rfl rfl Tryd.underlying9 hF.b256 (by omega) (by decide) (wl_cmp rfl rfl rfl false (cb_ne_f (a:=t.getD i 0) (b:=46) rfl rfl (by omega)) (by decide) (pu (v:= .bool false) rfl (by kernel_rfl) (ne_ (cw_false rfl (cw_skip (eo_then (cw_region (mv 1 rfl ?_)))))))))))))
    refine wl_ar rfl rfl rfl ((i+1:Nat):Int) (ai_add (a:=i) (b:=1) rfl rfl (by omega)) (by decide) (mv 1 rfl (ne_ (cw_seq (cw_seq ?_))))
    have htl:i+1<t.length:=by have:=hF.len;have:=hF.hp;split at this <;> split at hi <;> omega
    have hdj:t.getD (i+1) 0=(dgs n q).getD j 0:=by rw [←hF.d j hjn];congr 1;split <;> split at hi <;> omega
    have hdg:=dgs_digit (getD_mem0 (l:=dgs n q) (i:=j) (by rw [dgs_len];exact hjn))
    refine cw_region (mv 2 rfl (wl_pureE rfl rfl (v:= .int .i64 (((strB t).size:Nat):Int)) (v':= .int .i64 ((t.length:Nat):Int)) (by decide) (by kernel_rfl) (by rw [strB_size]) (wl_cmp rfl rfl rfl false (cb_ge_f (a:=i+1) (b:=t.length) rfl rfl (by omega)) (by decide) (mv 3 rfl (wl_strix (bs:=t) (i:=i+1) rfl rfl rfl Tryd.underlying9 hF.b256 (by omega) (by decide) (wl_cmp rfl rfl rfl false (cb_lt_f (a:=t.getD (i+1) 0) (b:=48) rfl rfl (by omega)) (by decide) (pu (v:= .bool false) rfl (by kernel_rfl) (mv 3 rfl (wl_strix (bs:=t) (i:=i+1) rfl rfl rfl Tryd.underlying9 hF.b256 (by omega) (by decide) (wl_cmp rfl rfl rfl false (cb_gt_f (a:=t.getD (i+1) 0) (b:=57) rfl rfl (by omega)) (by decide) (pu (v:= .bool false) rfl (by kernel_rfl) (mv 2 rfl (wl_cmp rfl rfl rfl false (cb_eq_f (a:=j) (b:=0) rfl rfl (by omega)) (by decide) ?_)))))))))))))
    refine mv 5 rfl (pu (v:= .bool false) rfl (by kernel_rfl) (pu (v:= .bool false) rfl (by kernel_rfl) (ne_ (cw_false rfl (cw_skip (eo_then (sr (mv 3 rfl (wl_strix (bs:=t) (i:=i+1) rfl rfl rfl Tryd.underlying9 hF.b256 (by omega) (by decide) (wl_bslice rfl rfl (by decide) (k:=1) (e:=5) [.int .u8 ((t.getD (i+1) 0:Nat):Int)] (fun _=>by kernel_rfl) fun g6 v7 nb=>?_))))))))))
    have hb8:=nb.bk
    have e9:=nb.ext
    have ge10:w.heap.size≤g6:=by rw [←nb.at_];exact hw1.size
    clear nb
    have hw2:=hw1.trans e9
    have ow11:=(hO.ext e9)
    refine wl_app rfl rfl rfl un_u8 info8 rfl (by decide) (by decide) ow11 hw2.size [.int .u8 ((t.getD (i+1) 0:Nat):Int)] rfl (one_news _ hb8) rfl (by omega) (by decide) fun A12 c13 v14 ho15 uo16 kp17=>?_
    have hw3:=uo16.ext hw2 (fun p hp=>(ow11.block p hp).1)
    have ho18:Own v14 w.heap.size 5 1 A12 (on+1) c13 ((([]++(dgs n q).take j)++ [t.getD (i+1) 0]).map B8):=by have h:=ho15;simp only [List.map_append,List.map_cons,List.map_nil] at h⊢;exact h
    refine mv 1 rfl (ne_ (cw_region (mv 1 rfl (wl_ar rfl rfl rfl (((i+1)+1:Nat):Int) (ai_add (a:=i+1) (b:=1) rfl rfl (by omega)) (by decide) (mv 1 rfl (wl_nil (eo_block_normal (eo_then (cw_region (mv 1 rfl (wl_ar rfl rfl rfl ((j+1:Nat):Int) (ai_add (a:=j) (b:=1) rfl rfl (by omega)) (by decide) (mv 1 rfl (wl_nil ?_)))))))))))))
    refine eo_round (⟨v14,j+1,(i+1)+1,A12,on+1,c13⟩:World×Nat×Nat×Option Addr×Nat×Nat) ⟨hw3,(by rw [take_snoc4 (by rw [dgs_len];exact hjn),←List.append_assoc,←hdj];exact ho18),(by omega),(by split <;> split at hi <;> omega),((hbx.ext e9).updO uo16 (own_ne ow11 (hbx.ext e9) (by decide)))⟩ (show n-(j+1)<n-j by omega) rfl ⟨rfl,rfl,rfl,rfl,rfl,rfl,trivial⟩
   · 
    refine cw_region (mv 1 rfl (wl_cmp rfl rfl rfl false (cb_eq_f (a:=j) (b:=1) rfl rfl (by omega)) (by decide) (ne_ (cw_false rfl (cw_skip (eo_then (cw_seq (cw_seq ?_))))))))
    have htl:i<t.length:=by have:=hF.len;have:=hF.hp;split at this <;> split at hi <;> omega
    have hdj:t.getD i 0=(dgs n q).getD j 0:=by rw [←hF.d j hjn];congr 1;split <;> split at hi <;> omega
    have hdg:=dgs_digit (getD_mem0 (l:=dgs n q) (i:=j) (by rw [dgs_len];exact hjn))
    have hf0:=first_ne hn1 hq1 hq2
    by_cases hj0:j=0
    · 
     have hf1:(dgs n q).getD j 0≠48:=by rw [hj0];exact hf0
     refine cw_region (mv 2 rfl (wl_pureE rfl rfl (v:= .int .i64 (((strB t).size:Nat):Int)) (v':= .int .i64 ((t.length:Nat):Int)) (by decide) (by kernel_rfl) (by rw [strB_size]) (wl_cmp rfl rfl rfl false (cb_ge_f (a:=i) (b:=t.length) rfl rfl (by omega)) (by decide) (mv 3 rfl (wl_strix (bs:=t) (i:=i) rfl rfl rfl Tryd.underlying9 hF.b256 (by omega) (by decide) (wl_cmp rfl rfl rfl false (cb_lt_f (a:=t.getD i 0) (b:=48) rfl rfl (by omega)) (by decide) (pu (v:= .bool false) rfl (by kernel_rfl) (mv 3 rfl (wl_strix (bs:=t) (i:=i) rfl rfl rfl Tryd.underlying9 hF.b256 (by omega) (by decide) (wl_cmp rfl rfl rfl false (cb_gt_f (a:=t.getD i 0) (b:=57) rfl rfl (by omega)) (by decide) (pu (v:= .bool false) rfl (by kernel_rfl) (mv 2 rfl (wl_cmp rfl rfl rfl true (cb_eq_t (a:=j) (b:=0) rfl rfl (by omega)) (by decide) ?_)))))))))))))
     refine mv 3 rfl (wl_strix (bs:=t) (i:=i) rfl rfl rfl Tryd.underlying9 hF.b256 (by omega) (by decide) (wl_cmp rfl rfl rfl false (cb_eq_f (a:=t.getD i 0) (b:=48) rfl rfl (by omega)) (by decide) (pu (v:= .bool false) rfl (by kernel_rfl) (pu (v:= .bool false) rfl (by kernel_rfl) (ne_ (cw_false rfl (cw_skip (eo_then (sr (mv 3 rfl (wl_strix (bs:=t) (i:=i) rfl rfl rfl Tryd.underlying9 hF.b256 (by omega) (by decide) (wl_bslice rfl rfl (by decide) (k:=1) (e:=5) [.int .u8 ((t.getD i 0:Nat):Int)] (fun _=>by kernel_rfl) fun g19 v20 nb=>?_))))))))))))
     have hb21:=nb.bk
     have e22:=nb.ext
     have ge23:w.heap.size≤g19:=by rw [←nb.at_];exact hw1.size
     clear nb
     have hw2:=hw1.trans e22
     have ow24:=(hO.ext e22)
     refine wl_app rfl rfl rfl un_u8 info8 rfl (by decide) (by decide) ow24 hw2.size [.int .u8 ((t.getD i 0:Nat):Int)] rfl (one_news _ hb21) rfl (by omega) (by decide) fun A25 c26 v27 ho28 uo29 kp30=>?_
     have hw3:=uo29.ext hw2 (fun p hp=>(ow24.block p hp).1)
     have ho31:Own v27 w.heap.size 5 1 A25 (on+1) c26 ((([]++(dgs n q).take j)++ [t.getD i 0]).map B8):=by have h:=ho28;simp only [List.map_append,List.map_cons,List.map_nil] at h⊢;exact h
     refine mv 1 rfl (ne_ (cw_region (mv 1 rfl (wl_ar rfl rfl rfl ((i+1:Nat):Int) (ai_add (a:=i) (b:=1) rfl rfl (by omega)) (by decide) (mv 1 rfl (wl_nil (eo_block_normal (eo_then (cw_region (mv 1 rfl (wl_ar rfl rfl rfl ((j+1:Nat):Int) (ai_add (a:=j) (b:=1) rfl rfl (by omega)) (by decide) (mv 1 rfl (wl_nil ?_)))))))))))))
     refine eo_round (⟨v27,j+1,i+1,A25,on+1,c26⟩:World×Nat×Nat×Option Addr×Nat×Nat) ⟨hw3,(by rw [take_snoc4 (by rw [dgs_len];exact hjn),←List.append_assoc,←hdj];exact ho31),(by omega),(by split <;> split at hi <;> omega),((hbx.ext e22).updO uo29 (own_ne ow24 (hbx.ext e22) (by decide)))⟩ (show n-(j+1)<n-j by omega) rfl ⟨rfl,rfl,rfl,rfl,rfl,rfl,trivial⟩
    · 
     refine cw_region (mv 2 rfl (wl_pureE rfl rfl (v:= .int .i64 (((strB t).size:Nat):Int)) (v':= .int .i64 ((t.length:Nat):Int)) (by decide) (by kernel_rfl) (by rw [strB_size]) (wl_cmp rfl rfl rfl false (cb_ge_f (a:=i) (b:=t.length) rfl rfl (by omega)) (by decide) (mv 3 rfl (wl_strix (bs:=t) (i:=i) rfl rfl rfl Tryd.underlying9 hF.b256 (by omega) (by decide) (wl_cmp rfl rfl rfl false (cb_lt_f (a:=t.getD i 0) (b:=48) rfl rfl (by omega)) (by decide) (pu (v:= .bool false) rfl (by kernel_rfl) (mv 3 rfl (wl_strix (bs:=t) (i:=i) rfl rfl rfl Tryd.underlying9 hF.b256 (by omega) (by decide) (wl_cmp rfl rfl rfl false (cb_gt_f (a:=t.getD i 0) (b:=57) rfl rfl (by omega)) (by decide) (pu (v:= .bool false) rfl (by kernel_rfl) (mv 2 rfl (wl_cmp rfl rfl rfl false (cb_eq_f (a:=j) (b:=0) rfl rfl (by omega)) (by decide) ?_)))))))))))))
     refine mv 5 rfl (pu (v:= .bool false) rfl (by kernel_rfl) (pu (v:= .bool false) rfl (by kernel_rfl) (ne_ (cw_false rfl (cw_skip (eo_then (sr (mv 3 rfl (wl_strix (bs:=t) (i:=i) rfl rfl rfl Tryd.underlying9 hF.b256 (by omega) (by decide) (wl_bslice rfl rfl (by decide) (k:=1) (e:=5) [.int .u8 ((t.getD i 0:Nat):Int)] (fun _=>by kernel_rfl) fun g32 v33 nb=>?_))))))))))
     have hb34:=nb.bk
     have e35:=nb.ext
     have ge36:w.heap.size≤g32:=by rw [←nb.at_];exact hw1.size
     clear nb
     have hw2:=hw1.trans e35
     have ow37:=(hO.ext e35)
     refine wl_app rfl rfl rfl un_u8 info8 rfl (by decide) (by decide) ow37 hw2.size [.int .u8 ((t.getD i 0:Nat):Int)] rfl (one_news _ hb34) rfl (by omega) (by decide) fun A38 c39 v40 ho41 uo42 kp43=>?_
     have hw3:=uo42.ext hw2 (fun p hp=>(ow37.block p hp).1)
     have ho44:Own v40 w.heap.size 5 1 A38 (on+1) c39 ((([]++(dgs n q).take j)++ [t.getD i 0]).map B8):=by have h:=ho41;simp only [List.map_append,List.map_cons,List.map_nil] at h⊢;exact h
     refine mv 1 rfl (ne_ (cw_region (mv 1 rfl (wl_ar rfl rfl rfl ((i+1:Nat):Int) (ai_add (a:=i) (b:=1) rfl rfl (by omega)) (by decide) (mv 1 rfl (wl_nil (eo_block_normal (eo_then (cw_region (mv 1 rfl (wl_ar rfl rfl rfl ((j+1:Nat):Int) (ai_add (a:=j) (b:=1) rfl rfl (by omega)) (by decide) (mv 1 rfl (wl_nil ?_)))))))))))))
     refine eo_round (⟨v40,j+1,i+1,A38,on+1,c39⟩:World×Nat×Nat×Option Addr×Nat×Nat) ⟨hw3,(by rw [take_snoc4 (by rw [dgs_len];exact hjn),←List.append_assoc,←hdj];exact ho44),(by omega),(by split <;> split at hi <;> omega),((hbx.ext e35).updO uo42 (own_ne ow37 (hbx.ext e35) (by decide)))⟩ (show n-(j+1)<n-j by omega) rfl ⟨rfl,rfl,rfl,rfl,rfl,rfl,trivial⟩
  · 
   have hjn2:j=n:=by omega
   have hiP:i=P:=by rw [hi,hF.hp];split <;> split <;> omega
   subst hiP
   rw [List.take_of_length_le (by rw [dgs_len];omega)] at hO
   refine cw_region (mv 2 rfl (wl_cmp rfl rfl rfl false (cb_lt_f (a:=j) (b:=n) rfl rfl (by omega)) (by decide) (ne_ (cw_false rfl (cw_exit (eo_thenX (eo_loopX (eo_block_here (eo_then (cw_seq (cw_seq ?_)))))))))))
   have hPt:i<t.length:=by have:=hF.len;omega
   have he:=hF.e
   refine cw_region (mv 2 rfl (wl_pureE rfl rfl (v:= .int .i64 (((strB t).size:Nat):Int)) (v':= .int .i64 ((t.length:Nat):Int)) (by decide) (by kernel_rfl) (by rw [strB_size]) (wl_cmp rfl rfl rfl false (cb_ge_f (a:=i) (b:=t.length) rfl rfl (by omega)) (by decide) (mv 3 rfl (wl_strix (bs:=t) (i:=i) rfl rfl rfl Tryd.underlying9 hF.b256 (by omega) (by decide) (wl_cmp rfl rfl rfl false (cb_ne_f (a:=t.getD i 0) (b:=101) rfl rfl (by omega)) (by decide) (pu (v:= .bool false) rfl (by kernel_rfl) (ne_ (cw_false rfl (cw_skip (eo_then (sr (mv 1 rfl ?_)))))))))))))
   refine ne_ (cw_seq (sr (mv 1 rfl (wl_ar rfl rfl rfl ((i+1:Nat):Int) (ai_add (a:=i) (b:=1) rfl rfl (by omega)) (by decide) (mv 1 rfl (ne_ (cw_block ?_)))))))
   refine cw_loop (T:=World×Nat×Nat×Option Addr×Nat×Nat)
    (fun⟨wr,p,v,OA2,on2,oc2⟩=> [(0,.string (strB t)),(4,.pointer (some ⟨g1,0,none⟩)),(8,.slice OA2 on2 oc2),(9,.int .i64 ((i:Nat):Int)),(11,.int .i64 ((v:Nat):Int)),(12,.int .i64 ((i+1+p:Nat):Int))])
    (fun⟨wr,p,v,OA2,on2,oc2⟩=>wr)
    (fun⟨wr,p,v,OA2,on2,oc2⟩=>(Ext w wr)∧(Own wr w.heap.size 5 1 OA2 on2 oc2 (([]++dgs n q).map B8))∧(p≤(txtN 10 X).length)∧(v=vald 10 (((txtN 10 X).take p).map dv))∧(Bk wr g1 24 [F0,S0]))
    (fun⟨wr,p,v,OA2,on2,oc2⟩=>(txtN 10 X).length-p)
    (⟨wr,0,0,OA,on,oc⟩:World×Nat×Nat×Option Addr×Nat×Nat) ⟨hw1,hO,(Nat.zero_le _),rfl,hbx⟩ rfl ⟨rfl,rfl,rfl,rfl,rfl,rfl,trivial⟩ ?_
   rintro⟨wr,p,v,OA2,on2,oc2⟩ ⟨hw1,hO2,hp,hv,hbx2⟩
   refine cw_re [(0,.string (strB t)),(4,.pointer (some ⟨g1,0,none⟩)),(8,.slice OA2 on2 oc2),(9,.int .i64 ((i:Nat):Int)),(11,.int .i64 ((v:Nat):Int)),(12,.int .i64 ((i+1+p:Nat):Int))] wr rfl ⟨rfl,rfl,rfl,rfl,rfl,rfl,trivial⟩ ?_
   have hvX:v≤X:=by rw [hv];have:=vald_take_le (l:=txtN 10 X) p;rwa [vald_digs10] at this
   refine cw_seq (cw_seq ?_)
   have hlt:=hF.len
   by_cases hpm:p<(txtN 10 X).length
   · 
    refine cw_region (mv 2 rfl (wl_pureE rfl rfl (v:= .int .i64 (((strB t).size:Nat):Int)) (v':= .int .i64 ((t.length:Nat):Int)) (by decide) (by kernel_rfl) (by rw [strB_size]) (wl_cmp rfl rfl rfl true (cb_lt_t (a:=i+1+p) (b:=t.length) rfl rfl (by omega)) (by decide) (ne_ (cw_true rfl (cw_skip (eo_then (cw_seq (cw_block (cw_seq (cw_seq ?_)))))))))))
    have hxp:=hF.x p hpm
    have hdx:=(txtN_digs (m:=X)).1 _ (getD_mem0 hpm)
    have hpt:i+1+p<t.length:=by omega
    by_cases hc48:t.getD (i+1+p) 0=48
    · 
     by_cases hp0:p=0
     · 
      have hm1:(txtN 10 X).length=1:=by have h2:(txtN 10 X).getD p 0=(txtN 10 X).getD 0 0:=(by rw [hp0]);by_cases hm:1<(txtN 10 X).length;(· have h:=lead_txt hm;omega);(· omega)
      refine cw_region (mv 2 rfl (wl_strix (bs:=t) (i:=i+1+p) rfl rfl rfl Tryd.underlying9 hF.b256 (by omega) (by decide) (wl_cmp rfl rfl rfl false (cb_lt_f (a:=t.getD (i+1+p) 0) (b:=48) rfl rfl (by omega)) (by decide) (mv 3 rfl (wl_strix (bs:=t) (i:=i+1+p) rfl rfl rfl Tryd.underlying9 hF.b256 (by omega) (by decide) (wl_cmp rfl rfl rfl false (cb_gt_f (a:=t.getD (i+1+p) 0) (b:=57) rfl rfl (by omega)) (by decide) (pu (v:= .bool false) rfl (by kernel_rfl) (mv 2 rfl (wl_cmp rfl rfl rfl false (cb_gt_f (a:=v) (b:=1099511627776) rfl rfl (by omega)) (by decide) (pu (v:= .bool false) rfl (by kernel_rfl) (mv 3 rfl (wl_strix (bs:=t) (i:=i+1+p) rfl rfl rfl Tryd.underlying9 hF.b256 (by omega) (by decide) (wl_cmp rfl rfl rfl true (cb_eq_t (a:=t.getD (i+1+p) 0) (b:=48) rfl rfl (by omega)) (by decide) ?_)))))))))))))
      refine mv 3 rfl (wl_ar rfl rfl rfl ((i+1:Nat):Int) (ai_add (a:=i) (b:=1) rfl rfl (by omega)) (by decide) (wl_cmp rfl rfl rfl true (cb_eq_t (a:=i+1+p) (b:=i+1) rfl rfl (by omega)) (by decide) (pu (v:= .bool true) rfl (by kernel_rfl) (mv 2 rfl (wl_pureE rfl rfl (v:= .int .i64 (((strB t).size:Nat):Int)) (v':= .int .i64 ((t.length:Nat):Int)) (by decide) (by kernel_rfl) (by rw [strB_size]) (mv 1 rfl (wl_ar rfl rfl rfl (((i+1+p)+1:Nat):Int) (ai_add (a:=i+1+p) (b:=1) rfl rfl (by omega)) (by decide) (wl_cmp rfl rfl rfl false (cb_gt_f (a:=t.length) (b:=(i+1+p)+1) rfl rfl (by omega)) (by decide) (pu (v:= .bool false) rfl (by kernel_rfl) (pu (v:= .bool false) rfl (by kernel_rfl) (ne_ (cw_false rfl (cw_skip ?_)))))))))))))
      refine eo_then (cw_region (mv 1 rfl (wl_ar rfl rfl rfl ((10*v:Nat):Int) (ai_mul (a:=10) (b:=v) rfl rfl (by omega)) (by decide) (mv 2 rfl (wl_strix (bs:=t) (i:=i+1+p) rfl rfl rfl Tryd.underlying9 hF.b256 (by omega) (by decide) (wl_ar rfl rfl rfl (((t.getD (i+1+p) 0)-48:Nat):Int) (a8_sub (a:=t.getD (i+1+p) 0) (b:=48) rfl rfl (by omega) (by omega)) (by decide) (wl_pureE rfl rfl (v:= .int .i64 (IntKind.i64.wrap (((t.getD (i+1+p) 0)-48:Nat):Int))) (v':= .int .i64 (((t.getD (i+1+p) 0)-48:Nat):Int)) (by decide) (by kernel_rfl) (cv_i64 (by first | omega | exact hle64)) (wl_ar rfl rfl rfl (((10*v)+((t.getD (i+1+p) 0)-48):Nat):Int) (ai_add (a:=10*v) (b:=(t.getD (i+1+p) 0)-48) rfl rfl (by omega)) (by decide) (mv 1 rfl (wl_nil (eo_block_normal (eo_then (cw_region ?_)))))))))))))
      refine mv 1 rfl (wl_ar rfl rfl rfl (((i+1+p)+1:Nat):Int) (ai_add (a:=i+1+p) (b:=1) rfl rfl (by omega)) (by decide) (mv 1 rfl (wl_nil (eo_round (⟨wr,p+1,10*v+(t.getD (i+1+p) 0-48),OA2,on2,oc2⟩:World×Nat×Nat×Option Addr×Nat×Nat) ⟨hw1,hO2,(by omega),(by rw [vald_take_step hpm (txtN_digs).1,←hv,hxp]),hbx2⟩ (show (txtN 10 X).length-(p+1)<(txtN 10 X).length-p by omega) rfl ⟨rfl,rfl,rfl,rfl,rfl,rfl,trivial⟩))))
     · 
      refine cw_region (mv 2 rfl (wl_strix (bs:=t) (i:=i+1+p) rfl rfl rfl Tryd.underlying9 hF.b256 (by omega) (by decide) (wl_cmp rfl rfl rfl false (cb_lt_f (a:=t.getD (i+1+p) 0) (b:=48) rfl rfl (by omega)) (by decide) (mv 3 rfl (wl_strix (bs:=t) (i:=i+1+p) rfl rfl rfl Tryd.underlying9 hF.b256 (by omega) (by decide) (wl_cmp rfl rfl rfl false (cb_gt_f (a:=t.getD (i+1+p) 0) (b:=57) rfl rfl (by omega)) (by decide) (pu (v:= .bool false) rfl (by kernel_rfl) (mv 2 rfl (wl_cmp rfl rfl rfl false (cb_gt_f (a:=v) (b:=1099511627776) rfl rfl (by omega)) (by decide) (pu (v:= .bool false) rfl (by kernel_rfl) (mv 3 rfl (wl_strix (bs:=t) (i:=i+1+p) rfl rfl rfl Tryd.underlying9 hF.b256 (by omega) (by decide) (wl_cmp rfl rfl rfl true (cb_eq_t (a:=t.getD (i+1+p) 0) (b:=48) rfl rfl (by omega)) (by decide) ?_)))))))))))))
      refine mv 3 rfl (wl_ar rfl rfl rfl ((i+1:Nat):Int) (ai_add (a:=i) (b:=1) rfl rfl (by omega)) (by decide) (wl_cmp rfl rfl rfl false (cb_eq_f (a:=i+1+p) (b:=i+1) rfl rfl (by omega)) (by decide) (pu (v:= .bool false) rfl (by kernel_rfl) (mv 6 rfl (pu (v:= .bool false) rfl (by kernel_rfl) (pu (v:= .bool false) rfl (by kernel_rfl) (ne_ (cw_false rfl (cw_skip (eo_then (cw_region (mv 1 rfl (wl_ar rfl rfl rfl ((10*v:Nat):Int) (ai_mul (a:=10) (b:=v) rfl rfl (by omega)) (by decide) ?_)))))))))))))
      refine mv 2 rfl (wl_strix (bs:=t) (i:=i+1+p) rfl rfl rfl Tryd.underlying9 hF.b256 (by omega) (by decide) (wl_ar rfl rfl rfl (((t.getD (i+1+p) 0)-48:Nat):Int) (a8_sub (a:=t.getD (i+1+p) 0) (b:=48) rfl rfl (by omega) (by omega)) (by decide) (wl_pureE rfl rfl (v:= .int .i64 (IntKind.i64.wrap (((t.getD (i+1+p) 0)-48:Nat):Int))) (v':= .int .i64 (((t.getD (i+1+p) 0)-48:Nat):Int)) (by decide) (by kernel_rfl) (cv_i64 (by first | omega | exact hle64)) (wl_ar rfl rfl rfl (((10*v)+((t.getD (i+1+p) 0)-48):Nat):Int) (ai_add (a:=10*v) (b:=(t.getD (i+1+p) 0)-48) rfl rfl (by omega)) (by decide) (mv 1 rfl (wl_nil (eo_block_normal (eo_then (cw_region (mv 1 rfl (wl_ar rfl rfl rfl (((i+1+p)+1:Nat):Int) (ai_add (a:=i+1+p) (b:=1) rfl rfl (by omega)) (by decide) (mv 1 rfl (wl_nil ?_)))))))))))))
      refine eo_round (⟨wr,p+1,10*v+(t.getD (i+1+p) 0-48),OA2,on2,oc2⟩:World×Nat×Nat×Option Addr×Nat×Nat) ⟨hw1,hO2,(by omega),(by rw [vald_take_step hpm (txtN_digs).1,←hv,hxp]),hbx2⟩ (show (txtN 10 X).length-(p+1)<(txtN 10 X).length-p by omega) rfl ⟨rfl,rfl,rfl,rfl,rfl,rfl,trivial⟩
    · 
     refine cw_region (mv 2 rfl (wl_strix (bs:=t) (i:=i+1+p) rfl rfl rfl Tryd.underlying9 hF.b256 (by omega) (by decide) (wl_cmp rfl rfl rfl false (cb_lt_f (a:=t.getD (i+1+p) 0) (b:=48) rfl rfl (by omega)) (by decide) (mv 3 rfl (wl_strix (bs:=t) (i:=i+1+p) rfl rfl rfl Tryd.underlying9 hF.b256 (by omega) (by decide) (wl_cmp rfl rfl rfl false (cb_gt_f (a:=t.getD (i+1+p) 0) (b:=57) rfl rfl (by omega)) (by decide) (pu (v:= .bool false) rfl (by kernel_rfl) (mv 2 rfl (wl_cmp rfl rfl rfl false (cb_gt_f (a:=v) (b:=1099511627776) rfl rfl (by omega)) (by decide) (pu (v:= .bool false) rfl (by kernel_rfl) (mv 3 rfl (wl_strix (bs:=t) (i:=i+1+p) rfl rfl rfl Tryd.underlying9 hF.b256 (by omega) (by decide) (wl_cmp rfl rfl rfl false (cb_eq_f (a:=t.getD (i+1+p) 0) (b:=48) rfl rfl (by omega)) (by decide) ?_)))))))))))))
     refine mv 5 rfl (pu (v:= .bool false) rfl (by kernel_rfl) (mv 6 rfl (pu (v:= .bool false) rfl (by kernel_rfl) (pu (v:= .bool false) rfl (by kernel_rfl) (ne_ (cw_false rfl (cw_skip (eo_then (cw_region (mv 1 rfl (wl_ar rfl rfl rfl ((10*v:Nat):Int) (ai_mul (a:=10) (b:=v) rfl rfl (by omega)) (by decide) (mv 2 rfl (wl_strix (bs:=t) (i:=i+1+p) rfl rfl rfl Tryd.underlying9 hF.b256 (by omega) (by decide) ?_)))))))))))))
     refine wl_ar rfl rfl rfl (((t.getD (i+1+p) 0)-48:Nat):Int) (a8_sub (a:=t.getD (i+1+p) 0) (b:=48) rfl rfl (by omega) (by omega)) (by decide) (wl_pureE rfl rfl (v:= .int .i64 (IntKind.i64.wrap (((t.getD (i+1+p) 0)-48:Nat):Int))) (v':= .int .i64 (((t.getD (i+1+p) 0)-48:Nat):Int)) (by decide) (by kernel_rfl) (cv_i64 (by first | omega | exact hle64)) (wl_ar rfl rfl rfl (((10*v)+((t.getD (i+1+p) 0)-48):Nat):Int) (ai_add (a:=10*v) (b:=(t.getD (i+1+p) 0)-48) rfl rfl (by omega)) (by decide) (mv 1 rfl (wl_nil (eo_block_normal (eo_then (cw_region (mv 1 rfl (wl_ar rfl rfl rfl (((i+1+p)+1:Nat):Int) (ai_add (a:=i+1+p) (b:=1) rfl rfl (by omega)) (by decide) (mv 1 rfl (wl_nil (eo_round (⟨wr,p+1,10*v+(t.getD (i+1+p) 0-48),OA2,on2,oc2⟩:World×Nat×Nat×Option Addr×Nat×Nat) ⟨hw1,hO2,(by omega),(by rw [vald_take_step hpm (txtN_digs).1,←hv,hxp]),hbx2⟩ (show (txtN 10 X).length-(p+1)<(txtN 10 X).length-p by omega) rfl ⟨rfl,rfl,rfl,rfl,rfl,rfl,trivial⟩))))))))))))
   · 
    have hpe:p=(txtN 10 X).length:=by omega
    rw [hpe,List.take_length,vald_digs10] at hv
    obtain⟨hs1,hs2,hs3,hs4⟩:=sgnT (sn:=false) hn1 hq2
    refine cw_region (mv 2 rfl (wl_pureE rfl rfl (v:= .int .i64 (((strB t).size:Nat):Int)) (v':= .int .i64 ((t.length:Nat):Int)) (by decide) (by kernel_rfl) (by rw [strB_size]) (wl_cmp rfl rfl rfl false (cb_lt_f (a:=i+1+p) (b:=t.length) rfl rfl (by omega)) (by decide) (ne_ (cw_false rfl (cw_exit (eo_thenX (eo_loopX (eo_block_here (eo_then (sr (mv 1 rfl (wl_toStr rfl rfl hO2 (by decide) ?_)))))))))))))
    refine cl (vs:= [.string (strB ([]++dgs n q))]) hw1 (rx_zRead hw1.size hs1 (by simp [dgs_len];omega) hs2 hs3 hs4) rfl (by kernel_rfl) fun xr47 v45 r47 e46 hw2=>?_
    obtain⟨_,_,rfl,⟨s49,A49,n49,c49,rfl,z49⟩,rfl⟩:=r47
    refine mv 1 rfl (pu (v:= .agg #[.bool s49,.slice A49 n49 c49]) rfl (by kernel_rfl) (pu (v:= .int .i64 0) rfl (by kernel_rfl) (alq [F0,S0] hw2 (hbx2.ext e46).lt (fun _=>by kernel_rfl) rfl fun g50 v51 hb53 ge54 q55 e52 hw3=>(so aggInt hb53 [.bool s49,.slice A49 n49 c49] hw3 ge54 rfl rfl rfl rfl fun v56 hb58 u59 hw4=>(mv 1 rfl (ne_ (cw_seq ?_)))))))
    have hTl:1≤(txtN 10 X).length:=List.length_pos_iff.2 (txtN_digs).2
    refine cw_region (lo aggInt hb58 [.bool s49,.slice A49 n49 c49] rfl rfl rfl (mv 2 rfl (wl_cmp rfl rfl rfl true (by decide) (by decide) (mv 2 rfl (wl_ar rfl rfl rfl ((i+1:Nat):Int) (ai_add (a:=i) (b:=1) rfl rfl (by omega)) (by decide) (mv 1 rfl (wl_pureE rfl rfl (v:= .int .i64 (((strB t).size:Nat):Int)) (v':= .int .i64 ((t.length:Nat):Int)) (by decide) (by kernel_rfl) (by rw [strB_size]) (wl_cmp rfl rfl rfl true (cb_lt_t (a:=i+1) (b:=t.length) rfl rfl (by omega)) (by decide) (pu (v:= .bool true) rfl (by kernel_rfl) ?_)))))))))
    have hb62:=((hbx2.ext (e46.trans e52)).updN u59 (by omega))
    refine so aggInt hb62 [.bool s49,.slice A49 n49 c49] hw4 ge5 rfl rfl rfl rfl fun v61 hb63 u64 hw5=>(mv 2 rfl (ne_ (cw_ret (eo_ret [.agg #[.bool s49,.slice A49 n49 c49],.int .i64 ((v:Nat):Int),.bool true] rfl ⟨⟨_,rfl,load_agg aggInt hb63 [.bool s49,.slice A49 n49 c49] rfl (bq rfl) rfl⟩,rfl,rfl,trivial⟩ ?_))))
    exact⟨_,rfl,⟨_,_,_,rfl,⟨_,_,_,_,rfl,((((z49.ext e52).updT hb53 u59).updT hb62 u64)).mono hb⟩,(show Value.int .i64 ((v:Nat):Int)=_ by rw [hv]),rfl⟩,hw5⟩
 · 
  have h45t:(((if true then [45] else [])++t)).getD 0 0=45:=h45.2 rfl
  refine cw_region (mv 1 rfl (wl_streq (a:=((if true then [45] else [])++t)) (b:= []) rfl rfl rfl hb0 (by decide) true (strE_neq_f (hne)) (by decide) (mv 2 rfl (wl_strix (bs:=((if true then [45] else [])++t)) (i:=0) rfl rfl rfl Tryd.underlying9 hb0 (by omega) (by decide) (wl_cmp rfl rfl rfl true (cb_eq_t (a:=((if true then [45] else [])++t).getD 0 0) (b:=45) rfl rfl (by omega)) (by decide) (pu (v:= .bool true) rfl (by kernel_rfl) (mv 1 rfl (ne_ (cw_seq (sr (mv 1 rfl (ne_ (cw_true rfl ?_)))))))))))))
  refine cw_region (mv 1 rfl (wl_strlo (bs:=((if true then [45] else [])++t)) (i:=1) rfl rfl rfl Tryd.underlying9 (by omega) (by decide) (mv 1 rfl (ne_ (cw_seq (cw_keep [(0,.string (strB (((if true then [45] else [])++t).drop 1))),(1,.int .i64 ((n:Nat):Int)),(4,.pointer (some ⟨g1,0,none⟩)),(5,.int .i64 0),(6,.bool false),(15,.string (strB ((if true then [45] else [])++t))),(16,.bool true),(17,.bool true),(18,.string (strB ((if true then [45] else [])++t))),(19,.int .u8 ((((if true then [45] else [])++t).getD 0 0:Nat):Int)),(20,.bool true),(21,.bool true),(7,.bool true),(22,.bool true),(23,.string (strB ((if true then [45] else [])++t))),(24,.string (strB (((if true then [45] else [])++t).drop 1)))] ⟨rfl,rfl,rfl,rfl,rfl,rfl,rfl,rfl,rfl,rfl,rfl,rfl,rfl,rfl,rfl,rfl,trivial⟩ ?_))))))
  have hst:(((if true then [45] else [])++t).drop 1:List Nat)=t:=rfl
  rw [hst]
  refine cw_region (mv 1 rfl (ne_ (cw_seq (sr (mv 1 rfl (ne_ (cw_true rfl (cw_region (mv 1 rfl (wl_bslice rfl rfl (by decide) (k:=1) (e:=5) [.int .u8 45] (fun _=>by kernel_rfl) fun g66 v67 nb=>?_))))))))))
  have hb68:=nb.bk
  have e69:=nb.ext
  have ge70:w.heap.size≤g66:=by rw [←nb.at_];exact hw1.size
  clear nb
  have hw2:=hw1.trans e69
  have ow71:=((Own.nil v2 w.heap.size 5 1).ext e69)
  refine wl_app rfl rfl rfl un_u8 info8 rfl (by decide) (by decide) ow71 hw2.size [.int .u8 45] rfl (one_news _ hb68) rfl (by omega) (by decide) fun A72 c73 v74 ho75 uo76 kp77=>?_
  have hw3:=uo76.ext hw2 (fun p hp=>(ow71.block p hp).1)
  have ho78:Own v74 w.heap.size 5 1 A72 (0+1) c73 (([45]).map B8):=by have h:=ho75;simp only [List.map_append,List.map_cons,List.map_nil] at h⊢;exact h
  refine mv 1 rfl (ne_ (sr (mv 1 rfl (ne_ (cw_seq (sr (mv 1 rfl (ne_ (cw_block ?_)))))))))
  refine cw_loop (T:=World×Nat×Nat×Option Addr×Nat×Nat)
   (fun⟨wr,j,i,OA,on,oc⟩=> [(0,.string (strB t)),(1,.int .i64 ((n:Nat):Int)),(4,.pointer (some ⟨g1,0,none⟩)),(8,.slice OA on oc),(9,.int .i64 ((i:Nat):Int)),(10,.int .i64 ((j:Nat):Int))])
   (fun⟨wr,j,i,OA,on,oc⟩=>wr)
   (fun⟨wr,j,i,OA,on,oc⟩=>(Ext w wr)∧(Own wr w.heap.size 5 1 OA on oc (([45]++(dgs n q).take j).map B8))∧(j≤n)∧(i=if j≤1 then j else j+1)∧(Bk wr g1 24 [F0,S0]))
   (fun⟨wr,j,i,OA,on,oc⟩=>n-j)
   (⟨v74,0,0,A72,0+1,c73⟩:World×Nat×Nat×Option Addr×Nat×Nat) ⟨hw3,(by rw [List.take_zero,List.append_nil];exact ho78),(Nat.zero_le _),rfl,((hb4.ext e69).updO uo76 (own_ne ow71 (hb4.ext e69) (by decide)))⟩ rfl ⟨rfl,rfl,rfl,rfl,rfl,rfl,trivial⟩ ?_
  rintro⟨wr,j,i,OA,on,oc⟩ ⟨hw1,hO,hj,hi,hbx⟩
  refine cw_re [(0,.string (strB t)),(1,.int .i64 ((n:Nat):Int)),(4,.pointer (some ⟨g1,0,none⟩)),(8,.slice OA on oc),(9,.int .i64 ((i:Nat):Int)),(10,.int .i64 ((j:Nat):Int))] wr rfl ⟨rfl,rfl,rfl,rfl,rfl,rfl,trivial⟩ ?_
  have hon:on≤j+1:=by have h:=own_len hO;rw [List.length_append,List.length_take] at h;simp at h;omega
  refine cw_seq (cw_seq ?_)
  by_cases hjn:j<n
  · 
   refine cw_region (mv 2 rfl (wl_cmp rfl rfl rfl true (cb_lt_t (a:=j) (b:=n) rfl rfl (by omega)) (by decide) (ne_ (cw_true rfl (cw_skip (eo_then (cw_seq (cw_block (cw_seq (cw_seq ?_))))))))))
   by_cases hj1:j=1
   · 
    have hdot:=hF.dot (by omega)
    have hi1:i=1:=by rw [hi];split <;> omega
    refine cw_region (mv 1 rfl (wl_cmp rfl rfl rfl true (cb_eq_t (a:=j) (b:=1) rfl rfl (by omega)) (by decide) (ne_ (cw_true rfl (cw_seq (cw_seq ?_))))))
    have hti:i<t.length:=by have:=hF.len;have:=hF.hp;split at this <;> omega
    have hgi:t.getD i 0=46:=by rw [hi1];exact hdot
    refine cw_region (mv 2 rfl (wl_pureE rfl rfl (v:= .int .i64 (((strB t).size:Nat):Int)) (v':= .int .i64 ((t.length:Nat):Int)) (by decide) (by kernel_rfl) (by rw [strB_size]) (wl_cmp rfl rfl rfl false (cb_ge_f (a:=i) (b:=t.length) rfl rfl (by omega)) (by decide) (mv 3 rfl (wl_strix (bs:=t) (i:=i) rfl rfl rfl Tryd.underlying9 hF.b256 (by omega) (by decide) (wl_cmp rfl rfl rfl false (cb_ne_f (a:=t.getD i 0) (b:=46) rfl rfl (by omega)) (by decide) (pu (v:= .bool false) rfl (by kernel_rfl) (ne_ (cw_false rfl (cw_skip (eo_then (cw_region (mv 1 rfl ?_)))))))))))))
    refine wl_ar rfl rfl rfl ((i+1:Nat):Int) (ai_add (a:=i) (b:=1) rfl rfl (by omega)) (by decide) (mv 1 rfl (ne_ (cw_seq (cw_seq ?_))))
    have htl:i+1<t.length:=by have:=hF.len;have:=hF.hp;split at this <;> split at hi <;> omega
    have hdj:t.getD (i+1) 0=(dgs n q).getD j 0:=by rw [←hF.d j hjn];congr 1;split <;> split at hi <;> omega
    have hdg:=dgs_digit (getD_mem0 (l:=dgs n q) (i:=j) (by rw [dgs_len];exact hjn))
    refine cw_region (mv 2 rfl (wl_pureE rfl rfl (v:= .int .i64 (((strB t).size:Nat):Int)) (v':= .int .i64 ((t.length:Nat):Int)) (by decide) (by kernel_rfl) (by rw [strB_size]) (wl_cmp rfl rfl rfl false (cb_ge_f (a:=i+1) (b:=t.length) rfl rfl (by omega)) (by decide) (mv 3 rfl (wl_strix (bs:=t) (i:=i+1) rfl rfl rfl Tryd.underlying9 hF.b256 (by omega) (by decide) (wl_cmp rfl rfl rfl false (cb_lt_f (a:=t.getD (i+1) 0) (b:=48) rfl rfl (by omega)) (by decide) (pu (v:= .bool false) rfl (by kernel_rfl) (mv 3 rfl (wl_strix (bs:=t) (i:=i+1) rfl rfl rfl Tryd.underlying9 hF.b256 (by omega) (by decide) (wl_cmp rfl rfl rfl false (cb_gt_f (a:=t.getD (i+1) 0) (b:=57) rfl rfl (by omega)) (by decide) (pu (v:= .bool false) rfl (by kernel_rfl) (mv 2 rfl (wl_cmp rfl rfl rfl false (cb_eq_f (a:=j) (b:=0) rfl rfl (by omega)) (by decide) ?_)))))))))))))
    refine mv 5 rfl (pu (v:= .bool false) rfl (by kernel_rfl) (pu (v:= .bool false) rfl (by kernel_rfl) (ne_ (cw_false rfl (cw_skip (eo_then (sr (mv 3 rfl (wl_strix (bs:=t) (i:=i+1) rfl rfl rfl Tryd.underlying9 hF.b256 (by omega) (by decide) (wl_bslice rfl rfl (by decide) (k:=1) (e:=5) [.int .u8 ((t.getD (i+1) 0:Nat):Int)] (fun _=>by kernel_rfl) fun g79 v80 nb=>?_))))))))))
    have hb81:=nb.bk
    have e82:=nb.ext
    have ge83:w.heap.size≤g79:=by rw [←nb.at_];exact hw1.size
    clear nb
    have hw2:=hw1.trans e82
    have ow84:=(hO.ext e82)
    refine wl_app rfl rfl rfl un_u8 info8 rfl (by decide) (by decide) ow84 hw2.size [.int .u8 ((t.getD (i+1) 0:Nat):Int)] rfl (one_news _ hb81) rfl (by omega) (by decide) fun A85 c86 v87 ho88 uo89 kp90=>?_
    have hw3:=uo89.ext hw2 (fun p hp=>(ow84.block p hp).1)
    have ho91:Own v87 w.heap.size 5 1 A85 (on+1) c86 ((([45]++(dgs n q).take j)++ [t.getD (i+1) 0]).map B8):=by have h:=ho88;simp only [List.map_append,List.map_cons,List.map_nil] at h⊢;exact h
    refine mv 1 rfl (ne_ (cw_region (mv 1 rfl (wl_ar rfl rfl rfl (((i+1)+1:Nat):Int) (ai_add (a:=i+1) (b:=1) rfl rfl (by omega)) (by decide) (mv 1 rfl (wl_nil (eo_block_normal (eo_then (cw_region (mv 1 rfl (wl_ar rfl rfl rfl ((j+1:Nat):Int) (ai_add (a:=j) (b:=1) rfl rfl (by omega)) (by decide) (mv 1 rfl (wl_nil ?_)))))))))))))
    refine eo_round (⟨v87,j+1,(i+1)+1,A85,on+1,c86⟩:World×Nat×Nat×Option Addr×Nat×Nat) ⟨hw3,(by rw [take_snoc4 (by rw [dgs_len];exact hjn),←List.append_assoc,←hdj];exact ho91),(by omega),(by split <;> split at hi <;> omega),((hbx.ext e82).updO uo89 (own_ne ow84 (hbx.ext e82) (by decide)))⟩ (show n-(j+1)<n-j by omega) rfl ⟨rfl,rfl,rfl,rfl,rfl,rfl,trivial⟩
   · 
    refine cw_region (mv 1 rfl (wl_cmp rfl rfl rfl false (cb_eq_f (a:=j) (b:=1) rfl rfl (by omega)) (by decide) (ne_ (cw_false rfl (cw_skip (eo_then (cw_seq (cw_seq ?_))))))))
    have htl:i<t.length:=by have:=hF.len;have:=hF.hp;split at this <;> split at hi <;> omega
    have hdj:t.getD i 0=(dgs n q).getD j 0:=by rw [←hF.d j hjn];congr 1;split <;> split at hi <;> omega
    have hdg:=dgs_digit (getD_mem0 (l:=dgs n q) (i:=j) (by rw [dgs_len];exact hjn))
    have hf0:=first_ne hn1 hq1 hq2
    by_cases hj0:j=0
    · 
     have hf1:(dgs n q).getD j 0≠48:=by rw [hj0];exact hf0
     refine cw_region (mv 2 rfl (wl_pureE rfl rfl (v:= .int .i64 (((strB t).size:Nat):Int)) (v':= .int .i64 ((t.length:Nat):Int)) (by decide) (by kernel_rfl) (by rw [strB_size]) (wl_cmp rfl rfl rfl false (cb_ge_f (a:=i) (b:=t.length) rfl rfl (by omega)) (by decide) (mv 3 rfl (wl_strix (bs:=t) (i:=i) rfl rfl rfl Tryd.underlying9 hF.b256 (by omega) (by decide) (wl_cmp rfl rfl rfl false (cb_lt_f (a:=t.getD i 0) (b:=48) rfl rfl (by omega)) (by decide) (pu (v:= .bool false) rfl (by kernel_rfl) (mv 3 rfl (wl_strix (bs:=t) (i:=i) rfl rfl rfl Tryd.underlying9 hF.b256 (by omega) (by decide) (wl_cmp rfl rfl rfl false (cb_gt_f (a:=t.getD i 0) (b:=57) rfl rfl (by omega)) (by decide) (pu (v:= .bool false) rfl (by kernel_rfl) (mv 2 rfl (wl_cmp rfl rfl rfl true (cb_eq_t (a:=j) (b:=0) rfl rfl (by omega)) (by decide) ?_)))))))))))))
     refine mv 3 rfl (wl_strix (bs:=t) (i:=i) rfl rfl rfl Tryd.underlying9 hF.b256 (by omega) (by decide) (wl_cmp rfl rfl rfl false (cb_eq_f (a:=t.getD i 0) (b:=48) rfl rfl (by omega)) (by decide) (pu (v:= .bool false) rfl (by kernel_rfl) (pu (v:= .bool false) rfl (by kernel_rfl) (ne_ (cw_false rfl (cw_skip (eo_then (sr (mv 3 rfl (wl_strix (bs:=t) (i:=i) rfl rfl rfl Tryd.underlying9 hF.b256 (by omega) (by decide) (wl_bslice rfl rfl (by decide) (k:=1) (e:=5) [.int .u8 ((t.getD i 0:Nat):Int)] (fun _=>by kernel_rfl) fun g92 v93 nb=>?_))))))))))))
     have hb94:=nb.bk
     have e95:=nb.ext
     have ge96:w.heap.size≤g92:=by rw [←nb.at_];exact hw1.size
     clear nb
     have hw2:=hw1.trans e95
     have ow97:=(hO.ext e95)
     refine wl_app rfl rfl rfl un_u8 info8 rfl (by decide) (by decide) ow97 hw2.size [.int .u8 ((t.getD i 0:Nat):Int)] rfl (one_news _ hb94) rfl (by omega) (by decide) fun A98 c99 v100 ho101 uo102 kp103=>?_
     have hw3:=uo102.ext hw2 (fun p hp=>(ow97.block p hp).1)
     have ho104:Own v100 w.heap.size 5 1 A98 (on+1) c99 ((([45]++(dgs n q).take j)++ [t.getD i 0]).map B8):=by have h:=ho101;simp only [List.map_append,List.map_cons,List.map_nil] at h⊢;exact h
     refine mv 1 rfl (ne_ (cw_region (mv 1 rfl (wl_ar rfl rfl rfl ((i+1:Nat):Int) (ai_add (a:=i) (b:=1) rfl rfl (by omega)) (by decide) (mv 1 rfl (wl_nil (eo_block_normal (eo_then (cw_region (mv 1 rfl (wl_ar rfl rfl rfl ((j+1:Nat):Int) (ai_add (a:=j) (b:=1) rfl rfl (by omega)) (by decide) (mv 1 rfl (wl_nil ?_)))))))))))))
     refine eo_round (⟨v100,j+1,i+1,A98,on+1,c99⟩:World×Nat×Nat×Option Addr×Nat×Nat) ⟨hw3,(by rw [take_snoc4 (by rw [dgs_len];exact hjn),←List.append_assoc,←hdj];exact ho104),(by omega),(by split <;> split at hi <;> omega),((hbx.ext e95).updO uo102 (own_ne ow97 (hbx.ext e95) (by decide)))⟩ (show n-(j+1)<n-j by omega) rfl ⟨rfl,rfl,rfl,rfl,rfl,rfl,trivial⟩
    · 
     refine cw_region (mv 2 rfl (wl_pureE rfl rfl (v:= .int .i64 (((strB t).size:Nat):Int)) (v':= .int .i64 ((t.length:Nat):Int)) (by decide) (by kernel_rfl) (by rw [strB_size]) (wl_cmp rfl rfl rfl false (cb_ge_f (a:=i) (b:=t.length) rfl rfl (by omega)) (by decide) (mv 3 rfl (wl_strix (bs:=t) (i:=i) rfl rfl rfl Tryd.underlying9 hF.b256 (by omega) (by decide) (wl_cmp rfl rfl rfl false (cb_lt_f (a:=t.getD i 0) (b:=48) rfl rfl (by omega)) (by decide) (pu (v:= .bool false) rfl (by kernel_rfl) (mv 3 rfl (wl_strix (bs:=t) (i:=i) rfl rfl rfl Tryd.underlying9 hF.b256 (by omega) (by decide) (wl_cmp rfl rfl rfl false (cb_gt_f (a:=t.getD i 0) (b:=57) rfl rfl (by omega)) (by decide) (pu (v:= .bool false) rfl (by kernel_rfl) (mv 2 rfl (wl_cmp rfl rfl rfl false (cb_eq_f (a:=j) (b:=0) rfl rfl (by omega)) (by decide) ?_)))))))))))))
     refine mv 5 rfl (pu (v:= .bool false) rfl (by kernel_rfl) (pu (v:= .bool false) rfl (by kernel_rfl) (ne_ (cw_false rfl (cw_skip (eo_then (sr (mv 3 rfl (wl_strix (bs:=t) (i:=i) rfl rfl rfl Tryd.underlying9 hF.b256 (by omega) (by decide) (wl_bslice rfl rfl (by decide) (k:=1) (e:=5) [.int .u8 ((t.getD i 0:Nat):Int)] (fun _=>by kernel_rfl) fun g105 v106 nb=>?_))))))))))
     have hb107:=nb.bk
     have e108:=nb.ext
     have ge109:w.heap.size≤g105:=by rw [←nb.at_];exact hw1.size
     clear nb
     have hw2:=hw1.trans e108
     have ow110:=(hO.ext e108)
     refine wl_app rfl rfl rfl un_u8 info8 rfl (by decide) (by decide) ow110 hw2.size [.int .u8 ((t.getD i 0:Nat):Int)] rfl (one_news _ hb107) rfl (by omega) (by decide) fun A111 c112 v113 ho114 uo115 kp116=>?_
     have hw3:=uo115.ext hw2 (fun p hp=>(ow110.block p hp).1)
     have ho117:Own v113 w.heap.size 5 1 A111 (on+1) c112 ((([45]++(dgs n q).take j)++ [t.getD i 0]).map B8):=by have h:=ho114;simp only [List.map_append,List.map_cons,List.map_nil] at h⊢;exact h
     refine mv 1 rfl (ne_ (cw_region (mv 1 rfl (wl_ar rfl rfl rfl ((i+1:Nat):Int) (ai_add (a:=i) (b:=1) rfl rfl (by omega)) (by decide) (mv 1 rfl (wl_nil (eo_block_normal (eo_then (cw_region (mv 1 rfl (wl_ar rfl rfl rfl ((j+1:Nat):Int) (ai_add (a:=j) (b:=1) rfl rfl (by omega)) (by decide) (mv 1 rfl (wl_nil ?_)))))))))))))
     refine eo_round (⟨v113,j+1,i+1,A111,on+1,c112⟩:World×Nat×Nat×Option Addr×Nat×Nat) ⟨hw3,(by rw [take_snoc4 (by rw [dgs_len];exact hjn),←List.append_assoc,←hdj];exact ho117),(by omega),(by split <;> split at hi <;> omega),((hbx.ext e108).updO uo115 (own_ne ow110 (hbx.ext e108) (by decide)))⟩ (show n-(j+1)<n-j by omega) rfl ⟨rfl,rfl,rfl,rfl,rfl,rfl,trivial⟩
  · 
   have hjn2:j=n:=by omega
   have hiP:i=P:=by rw [hi,hF.hp];split <;> split <;> omega
   subst hiP
   rw [List.take_of_length_le (by rw [dgs_len];omega)] at hO
   refine cw_region (mv 2 rfl (wl_cmp rfl rfl rfl false (cb_lt_f (a:=j) (b:=n) rfl rfl (by omega)) (by decide) (ne_ (cw_false rfl (cw_exit (eo_thenX (eo_loopX (eo_block_here (eo_then (cw_seq (cw_seq ?_)))))))))))
   have hPt:i<t.length:=by have:=hF.len;omega
   have he:=hF.e
   refine cw_region (mv 2 rfl (wl_pureE rfl rfl (v:= .int .i64 (((strB t).size:Nat):Int)) (v':= .int .i64 ((t.length:Nat):Int)) (by decide) (by kernel_rfl) (by rw [strB_size]) (wl_cmp rfl rfl rfl false (cb_ge_f (a:=i) (b:=t.length) rfl rfl (by omega)) (by decide) (mv 3 rfl (wl_strix (bs:=t) (i:=i) rfl rfl rfl Tryd.underlying9 hF.b256 (by omega) (by decide) (wl_cmp rfl rfl rfl false (cb_ne_f (a:=t.getD i 0) (b:=101) rfl rfl (by omega)) (by decide) (pu (v:= .bool false) rfl (by kernel_rfl) (ne_ (cw_false rfl (cw_skip (eo_then (sr (mv 1 rfl ?_)))))))))))))
   refine ne_ (cw_seq (sr (mv 1 rfl (wl_ar rfl rfl rfl ((i+1:Nat):Int) (ai_add (a:=i) (b:=1) rfl rfl (by omega)) (by decide) (mv 1 rfl (ne_ (cw_block ?_)))))))
   refine cw_loop (T:=World×Nat×Nat×Option Addr×Nat×Nat)
    (fun⟨wr,p,v,OA2,on2,oc2⟩=> [(0,.string (strB t)),(4,.pointer (some ⟨g1,0,none⟩)),(8,.slice OA2 on2 oc2),(9,.int .i64 ((i:Nat):Int)),(11,.int .i64 ((v:Nat):Int)),(12,.int .i64 ((i+1+p:Nat):Int))])
    (fun⟨wr,p,v,OA2,on2,oc2⟩=>wr)
    (fun⟨wr,p,v,OA2,on2,oc2⟩=>(Ext w wr)∧(Own wr w.heap.size 5 1 OA2 on2 oc2 (([45]++dgs n q).map B8))∧(p≤(txtN 10 X).length)∧(v=vald 10 (((txtN 10 X).take p).map dv))∧(Bk wr g1 24 [F0,S0]))
    (fun⟨wr,p,v,OA2,on2,oc2⟩=>(txtN 10 X).length-p)
    (⟨wr,0,0,OA,on,oc⟩:World×Nat×Nat×Option Addr×Nat×Nat) ⟨hw1,hO,(Nat.zero_le _),rfl,hbx⟩ rfl ⟨rfl,rfl,rfl,rfl,rfl,rfl,trivial⟩ ?_
   rintro⟨wr,p,v,OA2,on2,oc2⟩ ⟨hw1,hO2,hp,hv,hbx2⟩
   refine cw_re [(0,.string (strB t)),(4,.pointer (some ⟨g1,0,none⟩)),(8,.slice OA2 on2 oc2),(9,.int .i64 ((i:Nat):Int)),(11,.int .i64 ((v:Nat):Int)),(12,.int .i64 ((i+1+p:Nat):Int))] wr rfl ⟨rfl,rfl,rfl,rfl,rfl,rfl,trivial⟩ ?_
   have hvX:v≤X:=by rw [hv];have:=vald_take_le (l:=txtN 10 X) p;rwa [vald_digs10] at this
   refine cw_seq (cw_seq ?_)
   have hlt:=hF.len
   by_cases hpm:p<(txtN 10 X).length
   · 
    refine cw_region (mv 2 rfl (wl_pureE rfl rfl (v:= .int .i64 (((strB t).size:Nat):Int)) (v':= .int .i64 ((t.length:Nat):Int)) (by decide) (by kernel_rfl) (by rw [strB_size]) (wl_cmp rfl rfl rfl true (cb_lt_t (a:=i+1+p) (b:=t.length) rfl rfl (by omega)) (by decide) (ne_ (cw_true rfl (cw_skip (eo_then (cw_seq (cw_block (cw_seq (cw_seq ?_)))))))))))
    have hxp:=hF.x p hpm
    have hdx:=(txtN_digs (m:=X)).1 _ (getD_mem0 hpm)
    have hpt:i+1+p<t.length:=by omega
    by_cases hc48:t.getD (i+1+p) 0=48
    · 
     by_cases hp0:p=0
     · 
      have hm1:(txtN 10 X).length=1:=by have h2:(txtN 10 X).getD p 0=(txtN 10 X).getD 0 0:=(by rw [hp0]);by_cases hm:1<(txtN 10 X).length;(· have h:=lead_txt hm;omega);(· omega)
      refine cw_region (mv 2 rfl (wl_strix (bs:=t) (i:=i+1+p) rfl rfl rfl Tryd.underlying9 hF.b256 (by omega) (by decide) (wl_cmp rfl rfl rfl false (cb_lt_f (a:=t.getD (i+1+p) 0) (b:=48) rfl rfl (by omega)) (by decide) (mv 3 rfl (wl_strix (bs:=t) (i:=i+1+p) rfl rfl rfl Tryd.underlying9 hF.b256 (by omega) (by decide) (wl_cmp rfl rfl rfl false (cb_gt_f (a:=t.getD (i+1+p) 0) (b:=57) rfl rfl (by omega)) (by decide) (pu (v:= .bool false) rfl (by kernel_rfl) (mv 2 rfl (wl_cmp rfl rfl rfl false (cb_gt_f (a:=v) (b:=1099511627776) rfl rfl (by omega)) (by decide) (pu (v:= .bool false) rfl (by kernel_rfl) (mv 3 rfl (wl_strix (bs:=t) (i:=i+1+p) rfl rfl rfl Tryd.underlying9 hF.b256 (by omega) (by decide) (wl_cmp rfl rfl rfl true (cb_eq_t (a:=t.getD (i+1+p) 0) (b:=48) rfl rfl (by omega)) (by decide) ?_)))))))))))))
      refine mv 3 rfl (wl_ar rfl rfl rfl ((i+1:Nat):Int) (ai_add (a:=i) (b:=1) rfl rfl (by omega)) (by decide) (wl_cmp rfl rfl rfl true (cb_eq_t (a:=i+1+p) (b:=i+1) rfl rfl (by omega)) (by decide) (pu (v:= .bool true) rfl (by kernel_rfl) (mv 2 rfl (wl_pureE rfl rfl (v:= .int .i64 (((strB t).size:Nat):Int)) (v':= .int .i64 ((t.length:Nat):Int)) (by decide) (by kernel_rfl) (by rw [strB_size]) (mv 1 rfl (wl_ar rfl rfl rfl (((i+1+p)+1:Nat):Int) (ai_add (a:=i+1+p) (b:=1) rfl rfl (by omega)) (by decide) (wl_cmp rfl rfl rfl false (cb_gt_f (a:=t.length) (b:=(i+1+p)+1) rfl rfl (by omega)) (by decide) (pu (v:= .bool false) rfl (by kernel_rfl) (pu (v:= .bool false) rfl (by kernel_rfl) (ne_ (cw_false rfl (cw_skip ?_)))))))))))))
      refine eo_then (cw_region (mv 1 rfl (wl_ar rfl rfl rfl ((10*v:Nat):Int) (ai_mul (a:=10) (b:=v) rfl rfl (by omega)) (by decide) (mv 2 rfl (wl_strix (bs:=t) (i:=i+1+p) rfl rfl rfl Tryd.underlying9 hF.b256 (by omega) (by decide) (wl_ar rfl rfl rfl (((t.getD (i+1+p) 0)-48:Nat):Int) (a8_sub (a:=t.getD (i+1+p) 0) (b:=48) rfl rfl (by omega) (by omega)) (by decide) (wl_pureE rfl rfl (v:= .int .i64 (IntKind.i64.wrap (((t.getD (i+1+p) 0)-48:Nat):Int))) (v':= .int .i64 (((t.getD (i+1+p) 0)-48:Nat):Int)) (by decide) (by kernel_rfl) (cv_i64 (by first | omega | exact hle64)) (wl_ar rfl rfl rfl (((10*v)+((t.getD (i+1+p) 0)-48):Nat):Int) (ai_add (a:=10*v) (b:=(t.getD (i+1+p) 0)-48) rfl rfl (by omega)) (by decide) (mv 1 rfl (wl_nil (eo_block_normal (eo_then (cw_region ?_)))))))))))))
      refine mv 1 rfl (wl_ar rfl rfl rfl (((i+1+p)+1:Nat):Int) (ai_add (a:=i+1+p) (b:=1) rfl rfl (by omega)) (by decide) (mv 1 rfl (wl_nil (eo_round (⟨wr,p+1,10*v+(t.getD (i+1+p) 0-48),OA2,on2,oc2⟩:World×Nat×Nat×Option Addr×Nat×Nat) ⟨hw1,hO2,(by omega),(by rw [vald_take_step hpm (txtN_digs).1,←hv,hxp]),hbx2⟩ (show (txtN 10 X).length-(p+1)<(txtN 10 X).length-p by omega) rfl ⟨rfl,rfl,rfl,rfl,rfl,rfl,trivial⟩))))
     · 
      refine cw_region (mv 2 rfl (wl_strix (bs:=t) (i:=i+1+p) rfl rfl rfl Tryd.underlying9 hF.b256 (by omega) (by decide) (wl_cmp rfl rfl rfl false (cb_lt_f (a:=t.getD (i+1+p) 0) (b:=48) rfl rfl (by omega)) (by decide) (mv 3 rfl (wl_strix (bs:=t) (i:=i+1+p) rfl rfl rfl Tryd.underlying9 hF.b256 (by omega) (by decide) (wl_cmp rfl rfl rfl false (cb_gt_f (a:=t.getD (i+1+p) 0) (b:=57) rfl rfl (by omega)) (by decide) (pu (v:= .bool false) rfl (by kernel_rfl) (mv 2 rfl (wl_cmp rfl rfl rfl false (cb_gt_f (a:=v) (b:=1099511627776) rfl rfl (by omega)) (by decide) (pu (v:= .bool false) rfl (by kernel_rfl) (mv 3 rfl (wl_strix (bs:=t) (i:=i+1+p) rfl rfl rfl Tryd.underlying9 hF.b256 (by omega) (by decide) (wl_cmp rfl rfl rfl true (cb_eq_t (a:=t.getD (i+1+p) 0) (b:=48) rfl rfl (by omega)) (by decide) ?_)))))))))))))
      refine mv 3 rfl (wl_ar rfl rfl rfl ((i+1:Nat):Int) (ai_add (a:=i) (b:=1) rfl rfl (by omega)) (by decide) (wl_cmp rfl rfl rfl false (cb_eq_f (a:=i+1+p) (b:=i+1) rfl rfl (by omega)) (by decide) (pu (v:= .bool false) rfl (by kernel_rfl) (mv 6 rfl (pu (v:= .bool false) rfl (by kernel_rfl) (pu (v:= .bool false) rfl (by kernel_rfl) (ne_ (cw_false rfl (cw_skip (eo_then (cw_region (mv 1 rfl (wl_ar rfl rfl rfl ((10*v:Nat):Int) (ai_mul (a:=10) (b:=v) rfl rfl (by omega)) (by decide) ?_)))))))))))))
      refine mv 2 rfl (wl_strix (bs:=t) (i:=i+1+p) rfl rfl rfl Tryd.underlying9 hF.b256 (by omega) (by decide) (wl_ar rfl rfl rfl (((t.getD (i+1+p) 0)-48:Nat):Int) (a8_sub (a:=t.getD (i+1+p) 0) (b:=48) rfl rfl (by omega) (by omega)) (by decide) (wl_pureE rfl rfl (v:= .int .i64 (IntKind.i64.wrap (((t.getD (i+1+p) 0)-48:Nat):Int))) (v':= .int .i64 (((t.getD (i+1+p) 0)-48:Nat):Int)) (by decide) (by kernel_rfl) (cv_i64 (by first | omega | exact hle64)) (wl_ar rfl rfl rfl (((10*v)+((t.getD (i+1+p) 0)-48):Nat):Int) (ai_add (a:=10*v) (b:=(t.getD (i+1+p) 0)-48) rfl rfl (by omega)) (by decide) (mv 1 rfl (wl_nil (eo_block_normal (eo_then (cw_region (mv 1 rfl (wl_ar rfl rfl rfl (((i+1+p)+1:Nat):Int) (ai_add (a:=i+1+p) (b:=1) rfl rfl (by omega)) (by decide) (mv 1 rfl (wl_nil ?_)))))))))))))
      refine eo_round (⟨wr,p+1,10*v+(t.getD (i+1+p) 0-48),OA2,on2,oc2⟩:World×Nat×Nat×Option Addr×Nat×Nat) ⟨hw1,hO2,(by omega),(by rw [vald_take_step hpm (txtN_digs).1,←hv,hxp]),hbx2⟩ (show (txtN 10 X).length-(p+1)<(txtN 10 X).length-p by omega) rfl ⟨rfl,rfl,rfl,rfl,rfl,rfl,trivial⟩
    · 
     refine cw_region (mv 2 rfl (wl_strix (bs:=t) (i:=i+1+p) rfl rfl rfl Tryd.underlying9 hF.b256 (by omega) (by decide) (wl_cmp rfl rfl rfl false (cb_lt_f (a:=t.getD (i+1+p) 0) (b:=48) rfl rfl (by omega)) (by decide) (mv 3 rfl (wl_strix (bs:=t) (i:=i+1+p) rfl rfl rfl Tryd.underlying9 hF.b256 (by omega) (by decide) (wl_cmp rfl rfl rfl false (cb_gt_f (a:=t.getD (i+1+p) 0) (b:=57) rfl rfl (by omega)) (by decide) (pu (v:= .bool false) rfl (by kernel_rfl) (mv 2 rfl (wl_cmp rfl rfl rfl false (cb_gt_f (a:=v) (b:=1099511627776) rfl rfl (by omega)) (by decide) (pu (v:= .bool false) rfl (by kernel_rfl) (mv 3 rfl (wl_strix (bs:=t) (i:=i+1+p) rfl rfl rfl Tryd.underlying9 hF.b256 (by omega) (by decide) (wl_cmp rfl rfl rfl false (cb_eq_f (a:=t.getD (i+1+p) 0) (b:=48) rfl rfl (by omega)) (by decide) ?_)))))))))))))
     refine mv 5 rfl (pu (v:= .bool false) rfl (by kernel_rfl) (mv 6 rfl (pu (v:= .bool false) rfl (by kernel_rfl) (pu (v:= .bool false) rfl (by kernel_rfl) (ne_ (cw_false rfl (cw_skip (eo_then (cw_region (mv 1 rfl (wl_ar rfl rfl rfl ((10*v:Nat):Int) (ai_mul (a:=10) (b:=v) rfl rfl (by omega)) (by decide) (mv 2 rfl (wl_strix (bs:=t) (i:=i+1+p) rfl rfl rfl Tryd.underlying9 hF.b256 (by omega) (by decide) ?_)))))))))))))
     refine wl_ar rfl rfl rfl (((t.getD (i+1+p) 0)-48:Nat):Int) (a8_sub (a:=t.getD (i+1+p) 0) (b:=48) rfl rfl (by omega) (by omega)) (by decide) (wl_pureE rfl rfl (v:= .int .i64 (IntKind.i64.wrap (((t.getD (i+1+p) 0)-48:Nat):Int))) (v':= .int .i64 (((t.getD (i+1+p) 0)-48:Nat):Int)) (by decide) (by kernel_rfl) (cv_i64 (by first | omega | exact hle64)) (wl_ar rfl rfl rfl (((10*v)+((t.getD (i+1+p) 0)-48):Nat):Int) (ai_add (a:=10*v) (b:=(t.getD (i+1+p) 0)-48) rfl rfl (by omega)) (by decide) (mv 1 rfl (wl_nil (eo_block_normal (eo_then (cw_region (mv 1 rfl (wl_ar rfl rfl rfl (((i+1+p)+1:Nat):Int) (ai_add (a:=i+1+p) (b:=1) rfl rfl (by omega)) (by decide) (mv 1 rfl (wl_nil (eo_round (⟨wr,p+1,10*v+(t.getD (i+1+p) 0-48),OA2,on2,oc2⟩:World×Nat×Nat×Option Addr×Nat×Nat) ⟨hw1,hO2,(by omega),(by rw [vald_take_step hpm (txtN_digs).1,←hv,hxp]),hbx2⟩ (show (txtN 10 X).length-(p+1)<(txtN 10 X).length-p by omega) rfl ⟨rfl,rfl,rfl,rfl,rfl,rfl,trivial⟩))))))))))))
   · 
    have hpe:p=(txtN 10 X).length:=by omega
    rw [hpe,List.take_length,vald_digs10] at hv
    obtain⟨hs1,hs2,hs3,hs4⟩:=sgnT (sn:=true) hn1 hq2
    refine cw_region (mv 2 rfl (wl_pureE rfl rfl (v:= .int .i64 (((strB t).size:Nat):Int)) (v':= .int .i64 ((t.length:Nat):Int)) (by decide) (by kernel_rfl) (by rw [strB_size]) (wl_cmp rfl rfl rfl false (cb_lt_f (a:=i+1+p) (b:=t.length) rfl rfl (by omega)) (by decide) (ne_ (cw_false rfl (cw_exit (eo_thenX (eo_loopX (eo_block_here (eo_then (sr (mv 1 rfl (wl_toStr rfl rfl hO2 (by decide) ?_)))))))))))))
    refine cl (vs:= [.string (strB ([45]++dgs n q))]) hw1 (rx_zRead hw1.size hs1 (by simp [dgs_len];omega) hs2 hs3 hs4) rfl (by kernel_rfl) fun xr120 v118 r120 e119 hw2=>?_
    obtain⟨_,_,rfl,⟨s122,A122,n122,c122,rfl,z122⟩,rfl⟩:=r120
    refine mv 1 rfl (pu (v:= .agg #[.bool s122,.slice A122 n122 c122]) rfl (by kernel_rfl) (pu (v:= .int .i64 0) rfl (by kernel_rfl) (alq [F0,S0] hw2 (hbx2.ext e119).lt (fun _=>by kernel_rfl) rfl fun g123 v124 hb126 ge127 q128 e125 hw3=>(so aggInt hb126 [.bool s122,.slice A122 n122 c122] hw3 ge127 rfl rfl rfl rfl fun v129 hb131 u132 hw4=>(mv 1 rfl (ne_ (cw_seq ?_)))))))
    have hTl:1≤(txtN 10 X).length:=List.length_pos_iff.2 (txtN_digs).2
    refine cw_region (lo aggInt hb131 [.bool s122,.slice A122 n122 c122] rfl rfl rfl (mv 2 rfl (wl_cmp rfl rfl rfl true (by decide) (by decide) (mv 2 rfl (wl_ar rfl rfl rfl ((i+1:Nat):Int) (ai_add (a:=i) (b:=1) rfl rfl (by omega)) (by decide) (mv 1 rfl (wl_pureE rfl rfl (v:= .int .i64 (((strB t).size:Nat):Int)) (v':= .int .i64 ((t.length:Nat):Int)) (by decide) (by kernel_rfl) (by rw [strB_size]) (wl_cmp rfl rfl rfl true (cb_lt_t (a:=i+1) (b:=t.length) rfl rfl (by omega)) (by decide) (pu (v:= .bool true) rfl (by kernel_rfl) ?_)))))))))
    have hb135:=((hbx2.ext (e119.trans e125)).updN u132 (by omega))
    refine so aggInt hb135 [.bool s122,.slice A122 n122 c122] hw4 ge5 rfl rfl rfl rfl fun v134 hb136 u137 hw5=>(mv 2 rfl (ne_ (cw_ret (eo_ret [.agg #[.bool s122,.slice A122 n122 c122],.int .i64 ((v:Nat):Int),.bool true] rfl ⟨⟨_,rfl,load_agg aggInt hb136 [.bool s122,.slice A122 n122 c122] rfl (bq rfl) rfl⟩,rfl,rfl,trivial⟩ ?_))))
    exact⟨_,rfl,⟨_,_,_,rfl,⟨_,_,_,_,rfl,((((z122.ext e125).updT hb126 u132).updT hb135 u137)).mono hb⟩,(show Value.int .i64 ((v:Nat):Int)=_ by rw [hv]),rfl⟩,hw5⟩
theorem ln_ten {k u:Nat}(hu:10^k=u):ln ((u:Nat):Int)≤k+1:=by rw [ln_nat,←hu];exact len_pow36 (by decide)
theorem gv_bool7u {w:World}{b:Bool}:∀e w',Gv w (Is (.bool b)) e w'→BoolP b w e w':=by
 rintro e w' ⟨v,rfl,rfl,hx⟩
 exact⟨rfl,hx⟩
set_option maxHeartbeats 4000000 in
theorem g_sci_bad {w:World}{n:Int}{sa:Bool}{Aa:Option Addr}{na ca:Nat}{x:Int}(hx:Zi w sa Aa na ca x) (la:na≤1048576) (hn:n<1∨40<n):
    Calls Tryd.prog 19 #[.agg #[.bool sa,.slice Aa na ca],.int .i64 n] w (Gv w (T2 (Is (.string (strB []))) (Is (.int .i64 3)))):=by
 refine sx_enter Tryd.func19 rfl (n:=113) rfl (bq rfl) (args:= [.agg #[.bool sa,.slice Aa na ca],.int .i64 n]) (cw_keep [(0,.agg #[.bool sa,.slice Aa na ca]),(1,.int .i64 n)] ⟨rfl,rfl,trivial⟩ (sr (bx [.bool sa,.slice Aa na ca] (Ext.refl w) rfl rfl rfl fun g1 v2 hb4 ge5 e3 hw1=>(mv 2 rfl (ne_ (cw_seq (cw_seq ?_)))))))
 by_cases h1:n<1
 · 
  refine cw_region (mv 1 rfl (wl_cmp rfl rfl rfl true (lt_t h1) (by decide) (mv 3 rfl (pu (v:= .bool true) rfl (by kernel_rfl) (ne_ (cw_true rfl (sr (mv 2 rfl (ne_ (cw_ret (eo_thenR (eo_ret [.string (strB ([])),.int .i64 3] rfl ⟨rfl,rfl,trivial⟩ ?_))))))))))))
  exact⟨_,rfl,⟨_,_,rfl,rfl,rfl⟩,hw1⟩
 · 
  refine cw_region (mv 1 rfl (wl_cmp rfl rfl rfl false (lt_f (by omega)) (by decide) (mv 2 rfl (wl_cmp rfl rfl rfl true (gt_t (by omega)) (by decide) (pu (v:= .bool true) rfl (by kernel_rfl) (ne_ (cw_true rfl (sr (mv 2 rfl (ne_ (cw_ret (eo_thenR (eo_ret [.string (strB ([])),.int .i64 3] rfl ⟨rfl,rfl,trivial⟩ ?_)))))))))))))
  exact⟨_,rfl,⟨_,_,rfl,rfl,rfl⟩,hw1⟩
set_option maxHeartbeats 4000000 in
theorem g_sci_zero {w:World}{n:Nat}{sa:Bool}{Aa:Option Addr}{na ca:Nat}{x:Int}(hx:Zi w sa Aa na ca x) (la:na≤1048576) (hS:Signs w) (hx0:x=0) (hn1:1≤n) (hn40:n≤40):
    Calls Tryd.prog 19 #[.agg #[.bool sa,.slice Aa na ca],.int .i64 ((n:Nat):Int)] w (Gv w (T2 (Is (.string (strB [48]))) (Is (.int .i64 0)))):=by
 have Lx:ln x≤1048576:=Nat.le_trans hx.ln la
 refine sx_enter Tryd.func19 rfl (n:=113) rfl (bq rfl) (args:= [.agg #[.bool sa,.slice Aa na ca],.int .i64 ((n:Nat):Int)]) (cw_keep [(0,.agg #[.bool sa,.slice Aa na ca]),(1,.int .i64 ((n:Nat):Int))] ⟨rfl,rfl,trivial⟩ (sr (bx [.bool sa,.slice Aa na ca] (Ext.refl w) rfl rfl rfl fun g1 v2 hb4 ge5 e3 hw1=>(mv 2 rfl (ne_ (cw_seq (cw_seq ?_)))))))
 have h48:txtN 10 (Int.natAbs x)= [48]:=by rw [hx0];rfl
 refine cw_region (mv 1 rfl (wl_cmp rfl rfl rfl false (cb_lt_f (a:=n) (b:=1) rfl rfl (by omega)) (by decide) (mv 2 rfl (wl_cmp rfl rfl rfl false (cb_gt_f (a:=n) (b:=40) rfl rfl (by omega)) (by decide) (pu (v:= .bool false) rfl (by kernel_rfl) (ne_ (cw_false rfl (cw_skip (eo_then (sr (pf g1 1 rfl (by kernel_rfl) (wl_load rfl rfl (load_cell cellWords hb4 rfl) (by decide) (cl (vs:= [.slice Aa na ca]) hw1 (rx_DecF (hS.ext hw1) (hx.ext hw1).wi (lx_ la rfl)) rfl (by kernel_rfl) fun xr8 v6 r8 e7 hw2=>?_)))))))))))))
 obtain rfl:=r8
 refine mv 1 rfl (ne_ (cw_seq (sr (mv 1 rfl (wl_streq (a:=txtN 10 (Int.natAbs x)) (b:= [48]) rfl rfl rfl (fun b hb=>by rw [h48,List.mem_singleton] at hb;omega) (by decide) true (strE_eql_t (h48)) (by decide) (ne_ (cw_true rfl (sr (mv 3 rfl (ne_ (cw_ret (eo_thenR (eo_ret [.string (strB (txtN 10 (Int.natAbs x))),I0] rfl ⟨rfl,rfl,trivial⟩ ?_)))))))))))))
 exact⟨_,rfl,⟨_,_,rfl,(show Value.string _=_ by rw [h48]),rfl⟩,hw2⟩
theorem sciT_lt {x:Int}{n:Nat}(hn:1≤n) (hx:x≠0):∀b,b∈sciT x n→b<256:=by
 rw [sciT_eq hx]
 have h:=(sciF_of (n:=n) (q:=sciQ x.natAbs n) (X:=sciX x.natAbs n) hn).b256
 intro b hb
 rcases List.mem_append.1 hb with h1 | h1
 ·split at h1
  ·rw [List.mem_singleton] at h1;omega
  ·cases h1
 ·exact h b h1
theorem sciX_le {m n:Nat}:sciX m n≤dL m:=by unfold sciX;split <;> omega
theorem g_written_s {w:World}{x Z:Int}{n X b:Nat}{s:List Nat}(hb:b≤w.heap.size) (hx:x≠0) (hs:s=sciT x n) (hn1:1≤n) (hn40:n≤40) (hXe:X=sciX x.natAbs n) (hZ:sg (decide (x<0)) (sciQ x.natAbs n)=Z) (hX:X≤1073741824):
  Calls Tryd.prog 20 #[.string (strB s),.int .i64 ((n:Nat):Int)] w (Gv w (T3 (ZR b Z) (Is (.int .i64 ((X:Nat):Int))) (Is (.bool true)))):=by
 have h2:=sciQ_lt (m:=x.natAbs) (n:=n) (by omega) hn1
 have h256:=sciT_lt hn1 hx
 rw [sciT_eq hx] at h256
 have h:=g_written7 (w:=w) (sn:=decide (x<0)) hb (sciF_of (n:=n) (q:=sciQ x.natAbs n) (X:=sciX x.natAbs n) hn1) h256 hn1 hn40 h2.2 h2.1 (by omega) (txtN_len (b:=10) (n:=1) (by decide) (len_w64a (by omega)))
 rw [←sciT_eq hx,←hs,hZ,←hXe] at h
 exact h
theorem wd_par (m:Nat):(wd m).getD 0 0%2=m%2:=by
 have h:=nv_wd m
 cases hw:wd m with
 | nil=>rw [hw] at h;rw [←h];rfl
 | cons a r=>
  rw [hw] at h
  have e:nv (a::r)=a+WB*nv r:=rfl
  rw [e] at h
  show a%2=m%2
  rw [WB_def] at h
  omega
theorem sg_z {x Z:Int}{q:Nat}(hZ:sg (decide (x<0)) q=Z):(x<0→Z= -(q:Int))∧(0≤x→Z=(q:Int)):=by
 subst hZ
 refine⟨fun h=>by rw [decide_eq_true h,sg_true],fun h=>by rw [decide_eq_false (by omega),sg_false]⟩
theorem rnd_abs {x Z:Int}{q S:Nat}(hZ:sg (decide (x<0)) q=Z):(x-Z*((S:Nat):Int)+(x-Z*((S:Nat):Int))).natAbs=2*((x.natAbs:Int)-((q*S:Nat):Int)).natAbs:=by
 obtain⟨h1,h2⟩:=sg_z hZ
 have e:((q*S:Nat):Int)=(q:Int)*(S:Int):=Int.natCast_mul _ _
 by_cases h:x<0
 ·rw [h1 h,Int.neg_mul,e];omega
 ·rw [h2 (by omega),e];omega
theorem rnd_one {x Z:Int}{n:Nat}(hx:x≠0) (h:¬n<dL x.natAbs) (hn:1≤n) (hZ:sg (decide (x<0)) (sciQ x.natAbs n)=Z):sciX x.natAbs n=dL x.natAbs-1∧sciX x.natAbs n<n∧Z=x*((10^(n-1-sciX x.natAbs n):Nat):Int):=by
 obtain⟨k,hk,_⟩:=dL_ex (m:=x.natAbs) (by omega)
 obtain⟨h1,h2⟩:=sci_none (m:=x.natAbs) (n:=n) (fun hc=>h hc.1) (by omega) hn
 refine⟨h2,by omega,?_⟩
 have hq:sciQ x.natAbs n=x.natAbs*10^(n-1-sciX x.natAbs n):=by
  rw [h1];unfold sv0;rw [if_pos (by omega),h2,hk];congr 2;omega
 obtain⟨h3,h4⟩:=sg_z hZ
 have e:((x.natAbs*10^(n-1-sciX x.natAbs n):Nat):Int)=(x.natAbs:Int)*((10^(n-1-sciX x.natAbs n):Nat):Int):=Int.natCast_mul _ _
 rw [hq,e] at h3 h4
 by_cases hn:x<0
 ·rw [h3 hn,←Int.neg_mul];congr 1;omega
 ·rw [h4 (by omega)];congr 1;omega
theorem rnd_two {x Z:Int}{n:Nat}(hx:x≠0) (h:n<dL x.natAbs) (hn:1≤n) (hX:sciX x.natAbs n=dL x.natAbs-1) (hZ:sg (decide (x<0)) (sciQ x.natAbs n)=Z){S:Nat}(hS:10^(sciX x.natAbs n-n+1)=S):
  (x-Z*((S:Nat):Int)+(x-Z*((S:Nat):Int))).natAbs≤S∧((x-Z*((S:Nat):Int)+(x-Z*((S:Nat):Int))).natAbs=S→sciQ x.natAbs n%2=0):=by
 rw [rnd_abs hZ]
 have hm0:0<x.natAbs:=by omega
 generalize x.natAbs=m at*
 have eS:dL m-n=sciX m n-n+1:=by omega
 rw [←eS] at hS
 have hsv:sv0 m n=m/S:=by unfold sv0;rw [if_neg (by omega),hS]
 have hdm:=Nat.div_add_mod m S
 have hp:0<S:=hS▸pow_pos10 _
 have hml:=Nat.mod_lt m hp
 by_cases hr:rup m (dL m-n)
 ·have hno:¬sv0 m n+1=10^n:=fun e=>by have:=(sci_over ⟨h,hr⟩ e).2;omega
  rw [(sci_up ⟨h,hr⟩ hno).1,hsv]
  unfold rup at hr
  rw [hS] at hr
  have e:(m/S+1)*S=S*(m/S)+S:=by rw [Nat.succ_mul,Nat.mul_comm]
  rw [e]
  generalize S*(m/S)=Y at*
  generalize m/S=d at*
  generalize m%S=r at*
  subst hdm
  refine⟨by omega,fun h=>by omega⟩
 ·rw [(sci_none (fun hc=>hr hc.2) hm0 hn).1,hsv]
  unfold rup at hr
  rw [hS] at hr
  rw [Nat.mul_comm (m/S) S]
  generalize S*(m/S)=Y at*
  generalize m/S=d at*
  generalize m%S=r at*
  subst hdm
  refine⟨by omega,fun h=>by omega⟩
theorem rnd_three {x Z:Int}{n:Nat}(hx:x≠0) (h:n<dL x.natAbs) (hn:1≤n) (hX:¬sciX x.natAbs n=dL x.natAbs-1) (hZ:sg (decide (x<0)) (sciQ x.natAbs n)=Z){S T:Nat}(hS:10^(sciX x.natAbs n-n+1)=S) (hT:10^(sciX x.natAbs n-n)=T):
  sciX x.natAbs n=dL x.natAbs∧(x-Z*((S:Nat):Int)+(x-Z*((S:Nat):Int))).natAbs≤T∧Z.natAbs=10^(n-1):=by
 rw [rnd_abs hZ]
 have hz:=sg_z hZ
 have hm0:0<x.natAbs:=by omega
 have hza:Z.natAbs=sciQ x.natAbs n:=by
  rcases Int.lt_or_le x 0 with h | h
  ·have:=hz.1 h;omega
  ·have:=hz.2 h;omega
 rw [hza]
 generalize x.natAbs=m at*
 have hov:sci1 m n=10^n:=by
  refine Classical.byContradiction fun hc=>hX ?_
  unfold sciX;rw [if_neg hc]
 have hv:=sv0_lt hm0 hn
 have hr:n<dL m∧rup m (dL m-n):=by
  refine Classical.byContradiction fun hc=>?_
  unfold sci1 at hov;rw [if_neg hc] at hov;omega
 have hsv1:sv0 m n+1=10^n:=by unfold sci1 at hov;rw [if_pos hr] at hov;exact hov
 obtain⟨h1,h2⟩:=sci_over hr hsv1
 rw [h2] at hS hT⊢
 rw [h1]
 have hsv:sv0 m n=m/T:=by unfold sv0;rw [if_neg (by omega),hT]
 have hrr:=hr.2
 unfold rup at hrr
 rw [hT] at hrr
 have e1:10^(n-1)*S=(sv0 m n+1)*T:=by
  rw [hsv1,←hS,←hT,←Nat.pow_add,←Nat.pow_add];congr 1;omega
 have hp:0<T:=hT▸pow_pos10 _
 have hml:=Nat.mod_lt m hp
 have hdm:=Nat.div_add_mod m T
 have e:(m/T+1)*T=T*(m/T)+T:=by rw [Nat.succ_mul,Nat.mul_comm]
 refine⟨rfl,?_,rfl⟩
 rw [e1,hsv,e]
 generalize T*(m/T)=Y at*
 generalize m%T=r at*
 omega
theorem sg_scmp {x Z:Int}{q:Nat}(hZ:sg (decide (x<0)) q=Z) (hx:x≠0) (hq:0<q):scmp Z 0=scmp x 0:=by
 obtain⟨h1,h2⟩:=sg_z hZ
 rcases Int.lt_or_le x 0 with h | h
 ·have:=h1 h
  unfold scmp;rw [if_pos h,if_pos (by omega)]
 ·have:=h2 h
  unfold scmp;rw [if_neg (by omega),if_neg (by omega),if_neg (by omega),if_neg (by omega)]
theorem g7_CmpAbs_n {w:World}{s t:Bool}{A B:Option Addr}{n cap m cap':Nat}{x y c:Int}(hc:cmp3 (Int.natAbs x) (Int.natAbs y)=c) (hx:Zi w s A n cap x) (hl:n≤68719476736) (hy:Zi w t B m cap' y) (hl':m≤68719476736):
  Calls Tryd.prog 25 #[.agg #[.bool s,.slice A n cap],.agg #[.bool t,.slice B m cap']] w (Gv w (Is (.int .i64 c))):=by subst hc;exact g7_CmpAbs hx hl hy hl'
theorem g_sci_s {w:World}{s:Bool}{A:Option Addr}{n cap k:Nat}{x:Int}{t:List Nat}(ht:t=sciT x k) (hx:Zi w s A n cap x) (la:n≤1048576) (hS:Signs w) (h0:x≠0) (hk1:1≤k) (hk40:k≤40):Calls Tryd.prog 19 #[.agg #[.bool s,.slice A n cap],.int .i64 ((k:Nat):Int)] w (Gv w (T2 (Is (.string (strB t))) (Is (.int .i64 0)))):=by subst ht;exact g_sci hx la hS h0 hk1 hk40
theorem g_ztext_a {w:World}{s:Bool}{A:Option Addr}{n c k:Nat}{t:List Nat}(ht:t=txtN 10 k) (hx:Zi w s A n c ((k:Nat):Int)) (la:n≤4194304) (hS:Signs w):Calls Tryd.prog 21 #[.agg #[.bool s,.slice A n c]] w (Gv w (Is (.string (strB t)))):=by subst ht;exact g_ztext_n hx la hS
theorem scmp_c_t {x y:Int}(h:x=y):cmpB .eql (scmp x y) 0=some true:=eq_t (scmp_zero.2 h)
set_option maxHeartbeats 8000000 in
set_option maxRecDepth 20000 in
theorem law_ApproxRounds_bad {w:World}{n:Int}{sa:Bool}{Aa:Option Addr}{na ca:Nat}{x:Int}(hx:Zi w sa Aa na ca x) (la:na≤1048576) (hn:n<1∨40<n):
    Calls Tryd.prog 4 #[.agg #[.bool sa,.slice Aa na ca],.int .i64 n] w (Gv w (Is (.bool true))):=by
 have Lx:ln x≤1048576:=Nat.le_trans hx.ln la
 refine sx_enter Tryd.func4 rfl (n:=147) rfl (bq rfl) (args:= [.agg #[.bool sa,.slice Aa na ca],.int .i64 n]) (cw_keep [(0,.agg #[.bool sa,.slice Aa na ca]),(1,.int .i64 n)] ⟨rfl,rfl,trivial⟩ (sr (bx [.bool sa,.slice Aa na ca] (Ext.refl w) rfl rfl rfl fun g1 v2 hb4 ge5 e3 hw1=>(mv 1 rfl (ne_ (cw_seq (sr (wl_call rfl rfl (vs:= []) (by kernel_rfl) (by decide) g_awake7 ?_))))))))
 rintro _ v6 ⟨xr8,rfl,r8,e7⟩
 refine ret_intro ?_
 have hw2:=hw1.trans e7
 obtain rfl:=r8
 refine pu (v:= .bool false) rfl (by kernel_rfl) (ne_ (cw_false rfl (cw_skip (eo_then (sr (lo aggInt (hb4.ext e7) [.bool sa,.slice Aa na ca] rfl rfl rfl (mv 1 rfl (cl (vs:= [.agg #[.bool sa,.slice Aa na ca],.int .i64 n]) hw2 (g_sci_bad (hx.ext hw2) (lx_ la rfl) hn) rfl (by kernel_rfl) fun xr11 v9 r11 e10 hw3=>?_))))))))
 obtain⟨_,_,rfl,rfl,rfl⟩:=r11
 refine mv 1 rfl (pu (v:= .string (strB ([]))) rfl (by kernel_rfl) (pu (v:= .int .i64 3) rfl (by kernel_rfl) (mv 2 rfl (ne_ (cw_seq (cw_seq ?_))))))
 by_cases h1:n<1
 · 
  refine cw_region (mv 1 rfl (wl_cmp rfl rfl rfl true (lt_t h1) (by decide) (mv 3 rfl (pu (v:= .bool true) rfl (by kernel_rfl) (ne_ (cw_true rfl (sr (mv 1 rfl (wl_cmp rfl rfl rfl true (by decide) (by decide) (mv 2 rfl (wl_streq (a:= []) (b:= []) rfl rfl rfl (by decide) (by decide) true (strE_eql_t (rfl)) (by decide) (pu (v:= .bool true) rfl (by kernel_rfl) (mv 1 rfl ?_)))))))))))))
  refine ne_ (cw_ret (eo_thenR (eo_ret [.bool true] rfl ⟨rfl,trivial⟩ ?_)))
  exact⟨_,rfl,rfl,hw3⟩
 · 
  refine cw_region (mv 1 rfl (wl_cmp rfl rfl rfl false (lt_f (by omega)) (by decide) (mv 2 rfl (wl_cmp rfl rfl rfl true (gt_t (by omega)) (by decide) (pu (v:= .bool true) rfl (by kernel_rfl) (ne_ (cw_true rfl (sr (mv 1 rfl (wl_cmp rfl rfl rfl true (by decide) (by decide) (mv 2 rfl (wl_streq (a:= []) (b:= []) rfl rfl rfl (by decide) (by decide) true (strE_eql_t (rfl)) (by decide) (pu (v:= .bool true) rfl (by kernel_rfl) ?_)))))))))))))
  refine mv 1 rfl (ne_ (cw_ret (eo_thenR (eo_ret [.bool true] rfl ⟨rfl,trivial⟩ ?_))))
  exact⟨_,rfl,rfl,hw3⟩
set_option maxHeartbeats 8000000 in
set_option maxRecDepth 20000 in
theorem law_ApproxRounds_zero {w:World}{n:Nat}{sa:Bool}{Aa:Option Addr}{na ca:Nat}{x:Int}(hx:Zi w sa Aa na ca x) (la:na≤1048576) (hS:Signs w) (hx0:x=0) (hn1:1≤n) (hn40:n≤40):
    Calls Tryd.prog 4 #[.agg #[.bool sa,.slice Aa na ca],.int .i64 ((n:Nat):Int)] w (Gv w (Is (.bool true))):=by
 have Lx:ln x≤1048576:=Nat.le_trans hx.ln la
 refine sx_enter Tryd.func4 rfl (n:=147) rfl (bq rfl) (args:= [.agg #[.bool sa,.slice Aa na ca],.int .i64 ((n:Nat):Int)]) (cw_keep [(0,.agg #[.bool sa,.slice Aa na ca]),(1,.int .i64 ((n:Nat):Int))] ⟨rfl,rfl,trivial⟩ (sr (bx [.bool sa,.slice Aa na ca] (Ext.refl w) rfl rfl rfl fun g1 v2 hb4 ge5 e3 hw1=>(mv 1 rfl (ne_ (cw_seq (sr (wl_call rfl rfl (vs:= []) (by kernel_rfl) (by decide) g_awake7 ?_))))))))
 rintro _ v6 ⟨xr8,rfl,r8,e7⟩
 refine ret_intro ?_
 have hw2:=hw1.trans e7
 obtain rfl:=r8
 refine pu (v:= .bool false) rfl (by kernel_rfl) (ne_ (cw_false rfl (cw_skip (eo_then (sr (lo aggInt (hb4.ext e7) [.bool sa,.slice Aa na ca] rfl rfl rfl (mv 1 rfl (cl (vs:= [.agg #[.bool sa,.slice Aa na ca],.int .i64 ((n:Nat):Int)]) hw2 (g_sci_zero (hx.ext hw2) (lx_ la rfl) (hS.ext hw2) hx0 hn1 hn40) rfl (by kernel_rfl) fun xr11 v9 r11 e10 hw3=>?_))))))))
 obtain⟨_,_,rfl,rfl,rfl⟩:=r11
 refine mv 1 rfl (pu (v:= .string (strB ([48]))) rfl (by kernel_rfl) (pu (v:= .int .i64 0) rfl (by kernel_rfl) (mv 2 rfl (ne_ (cw_seq (sr (mv 1 rfl (wl_cmp rfl rfl rfl false (cb_lt_f (a:=n) (b:=1) rfl rfl (by omega)) (by decide) (mv 2 rfl (wl_cmp rfl rfl rfl false (cb_gt_f (a:=n) (b:=40) rfl rfl (by omega)) (by decide) (pu (v:= .bool false) rfl (by kernel_rfl) (ne_ (cw_false rfl ?_)))))))))))))
 refine cw_skip (eo_then (cw_seq (sr (lo aggInt (hb4.ext (e7.trans e10)) [.bool sa,.slice Aa na ca] rfl rfl rfl (cl (vs:= [.agg #[.bool sa,.slice Aa na ca]]) hw3 (g_zint_Sign (hx.ext hw3) (lx_ la rfl)) rfl (by kernel_rfl) fun xr15 v13 r15 e14 hw4=>?_)))))
 obtain rfl:=r15
 refine wl_cmp rfl rfl rfl true (scmp_eq_t hx0) (by decide) (ne_ (cw_true rfl (sr (mv 1 rfl (wl_cmp rfl rfl rfl true (by decide) (by decide) (mv 2 rfl (wl_streq (a:= [48]) (b:= [48]) rfl rfl rfl (by decide) (by decide) true (strE_eql_t (rfl)) (by decide) (pu (v:= .bool true) rfl (by kernel_rfl) (mv 1 rfl (ne_ (cw_ret (eo_thenR (eo_ret [.bool true] rfl ⟨rfl,trivial⟩ ?_)))))))))))))
 exact⟨_,rfl,rfl,hw4⟩
set_option maxHeartbeats 8000000 in
set_option maxRecDepth 20000 in
theorem law_ApproxRounds_main {w:World}{n:Nat}{sa:Bool}{Aa:Option Addr}{na ca:Nat}{x:Int}(hx:Zi w sa Aa na ca x) (la:na≤1048576) (hS:Signs w) (hx0:x≠0) (hn1:1≤n) (hn40:n≤40):
    Calls Tryd.prog 4 #[.agg #[.bool sa,.slice Aa na ca],.int .i64 ((n:Nat):Int)] w (Gv w (Is (.bool true))):=by
 have Lx:ln x≤1048576:=Nat.le_trans hx.ln la
 refine sx_enter Tryd.func4 rfl (n:=147) rfl (bq rfl) (args:= [.agg #[.bool sa,.slice Aa na ca],.int .i64 ((n:Nat):Int)]) (cw_keep [(0,.agg #[.bool sa,.slice Aa na ca]),(1,.int .i64 ((n:Nat):Int))] ⟨rfl,rfl,trivial⟩ (sr (bx [.bool sa,.slice Aa na ca] (Ext.refl w) rfl rfl rfl fun g1 v2 hb4 ge5 e3 hw1=>(mv 1 rfl (ne_ (cw_seq (sr (wl_call rfl rfl (vs:= []) (by kernel_rfl) (by decide) g_awake7 ?_))))))))
 rintro _ v6 ⟨xr8,rfl,r8,e7⟩
 refine ret_intro ?_
 have hw2:=hw1.trans e7
 obtain rfl:=r8
 refine pu (v:= .bool false) rfl (by kernel_rfl) (ne_ (cw_false rfl (cw_skip (eo_then (cw_seq ?_)))))
 have hM0:0<Int.natAbs x:=by omega
 obtain⟨s,hs⟩:∃s,s=sciT x n:=⟨_,rfl⟩
 obtain⟨ls,hls⟩:∃s,s=txtN 10 (Int.natAbs x):=⟨_,rfl⟩
 have hdl:dL (Int.natAbs x)=ls.length:=by rw [hls];rfl
 have hlsl:ls.length≤67108865:=by rw [hls];exact txtN_len (b:=10) (n:=1048576) (by decide) Lx
 have hls0:0<ls.length:=by rw [hls];exact List.length_pos_iff.2 txtN_digs.2
 obtain⟨X,hX⟩:∃X,X=sciX (Int.natAbs x) n:=⟨_,rfl⟩
 have hXl:X≤67108865:=by have:=sciX_le (m:=Int.natAbs x) (n:=n);omega
 obtain⟨Z,hZ⟩:∃Z,sg (decide (x<0)) (sciQ (Int.natAbs x) n)=Z:=⟨_,rfl⟩
 have hQ:=sciQ_lt (m:=Int.natAbs x) (n:=n) hM0 hn1
 have hQ0:0<sciQ (Int.natAbs x) n:=Nat.lt_of_lt_of_le (pow_pos10 _) hQ.2
 have hsg:=sg_scmp hZ hx0 hQ0
 have hzz:=sg_z hZ
 have hZ0:Z≠0:=by rcases Int.lt_or_le x 0 with h | h;(· have:=hzz.1 h;omega);(· have:=hzz.2 h;omega)
 have hZa:Int.natAbs Z=sciQ (Int.natAbs x) n:=by rcases Int.lt_or_le x 0 with h | h;(· have:=hzz.1 h;omega);(· have:=hzz.2 h;omega)
 have hZl:ln Z≤41:=by unfold ln;rw [hZa];exact Nat.le_trans (len_wd_mono (Nat.le_of_lt hQ.1)) (Nat.le_trans (len_pow36 (b:=10) (n:=n) (by decide)) (by omega))
 refine cw_region (lo aggInt (hb4.ext e7) [.bool sa,.slice Aa na ca] rfl rfl rfl (mv 1 rfl (cl (vs:= [.agg #[.bool sa,.slice Aa na ca],.int .i64 ((n:Nat):Int)]) hw2 (g_sci_s hs (hx.ext hw2) (lx_ la rfl) (hS.ext hw2) hx0 hn1 hn40) rfl (by kernel_rfl) fun xr11 v9 r11 e10 hw3=>?_)))
 obtain⟨_,_,rfl,rfl,rfl⟩:=r11
 refine mv 1 rfl (pu (v:= .string (strB s)) rfl (by kernel_rfl) (pu (v:= .int .i64 0) rfl (by kernel_rfl) (mv 2 rfl (ne_ (cw_seq (sr (mv 1 rfl (wl_cmp rfl rfl rfl false (cb_lt_f (a:=n) (b:=1) rfl rfl (by omega)) (by decide) (mv 2 rfl (wl_cmp rfl rfl rfl false (cb_gt_f (a:=n) (b:=40) rfl rfl (by omega)) (by decide) (pu (v:= .bool false) rfl (by kernel_rfl) (ne_ (cw_false rfl ?_)))))))))))))
 refine cw_skip (eo_then (cw_seq (sr (lo aggInt (hb4.ext (e7.trans e10)) [.bool sa,.slice Aa na ca] rfl rfl rfl (cl (vs:= [.agg #[.bool sa,.slice Aa na ca]]) hw3 (g_zint_Sign (hx.ext hw3) (lx_ la rfl)) rfl (by kernel_rfl) fun xr15 v13 r15 e14 hw4=>?_)))))
 obtain rfl:=r15
 refine wl_cmp rfl rfl rfl false (scmp_eq_f hx0) (by decide) (ne_ (cw_false rfl (cw_skip (eo_then (sr (mv 2 rfl (cl (vs:= [.string (strB s),.int .i64 ((n:Nat):Int)]) hw4 (g_written_s hw4.size hx0 hs hn1 hn40 hX hZ (by omega)) rfl (by kernel_rfl) fun xr18 v16 r18 e17 hw5=>?_)))))))
 obtain⟨_,_,_,rfl,⟨s20,A20,n20,c20,rfl,z20⟩,rfl,rfl⟩:=r18
 refine mv 1 rfl (pu (v:= .agg #[.bool s20,.slice A20 n20 c20]) rfl (by kernel_rfl) (pu (v:= .int .i64 ((X:Nat):Int)) rfl (by kernel_rfl) (pu (v:= .bool true) rfl (by kernel_rfl) (alq [F0,S0] hw5 (hb4.ext (e7.trans (e10.trans (e14.trans e17)))).lt (fun _=>by kernel_rfl) rfl fun g21 v22 hb24 ge25 q26 e23 hw6=>(so aggInt hb24 [.bool s20,.slice A20 n20 c20] hw6 ge25 rfl rfl rfl rfl fun v27 hb29 u30 hw7=>(mv 2 rfl (ne_ (cw_seq (cw_seq ?_)))))))))
 refine cw_draw mix 13 [] [Is (.int .i64 0),Is (.bool false),Is (.bool false),Is (.bool true),Is (.bool false),Is (.bool false),Is (.bool false),Is (.agg #[.bool s20,.slice A20 n20 c20]),Is (.int .i64 (scmp Z 0)),Is (.agg #[.bool sa,.slice Aa na ca]),Is (.int .i64 (scmp x 0)),Is (.bool false),Is (.bool false)] [[],[0],[1],[2],[2,3],[2,4],[5],[6],[6,7],[6],[6,9],[6,8,10],[6,11]] [[],[0],[0,1],[0,1,2],[0,1,2,3],[0,1,2,3,4],[0,1,2,3,4,5],[0,1,2,3,4,5,6],[0,1,2,3,4,5,6,7],[0,1,2,3,4,5,6],[0,1,2,3,4,5,6,7,8,9],[0,1,2,3,4,5,6,7,8,9,10],[0,1,2,3,4,5,6,7,8,9,10,11]] rfl
  (obs_cons rfl rfl (hob rfl rfl ?_) (obs_cons rfl rfl (hob rfl rfl ?_) (obs_cons rfl rfl (hob rfl rfl ?_) (obs_cons rfl rfl (hob rfl rfl ?_) (obs_cons rfl rfl (hob rfl rfl ?_) (obs_cons rfl rfl (hob rfl rfl ?_) (obs_cons rfl rfl (hob rfl rfl ?_) (obs_cons rfl rfl (hob rfl rfl ?_) (obs_cons rfl rfl (hob rfl rfl ?_) (obs_cons rfl rfl (hob rfl rfl ?_) (obs_cons rfl rfl (hob rfl rfl ?_) (obs_cons rfl rfl (hob rfl rfl ?_) (obs_cons rfl rfl (hob rfl rfl ?_) obs_nil))))))))))))) ?_
 · 
  exact fun _ _=>deps_nil (mv 1 rfl (pi_done rfl (Ext.refl _) rfl))
 · 
  exact fun _ _=>dk rfl rfl (deps_nil (wl_cmp rfl rfl rfl false (by decide) (by decide) (pi_done rfl (Ext.refl _) rfl)))
 · 
  exact fun _ _=>dk rfl rfl (deps_nil (mv 1 rfl (pi_done rfl (Ext.refl _) rfl)))
 · 
  exact fun _ _=>dk rfl rfl (deps_nil (mv 1 rfl (pi_done rfl (Ext.refl _) rfl)))
 · 
  exact fun _ _=>dk rfl rfl (dk rfl rfl (deps_nil (pu (v:= .bool false) rfl (by kernel_rfl) (pi_done rfl (Ext.refl _) rfl))))
 · 
  exact fun _ _=>dk rfl rfl (dk rfl rfl (deps_nil (pu (v:= .bool false) rfl (by kernel_rfl) (pi_done rfl (Ext.refl _) rfl))))
 · 
  exact fun _ _=>dk rfl rfl (deps_nil (mv 1 rfl (pi_done rfl (Ext.refl _) rfl)))
 · 
  exact fun _ e87=>dk rfl rfl (deps_nil (lo aggInt (hb29.ext e87) [.bool s20,.slice A20 n20 c20] rfl rfl rfl (pi_done rfl (Ext.refl _) rfl)))
 · 
  intro v93 e94
  have hw8:=hw7.trans e94
  refine dk rfl rfl (dk rfl rfl (deps_nil (cl (vs:= [.agg #[.bool s20,.slice A20 n20 c20]]) hw8 (g_zint_Sign (((z20.ext e23).updT hb24 u30).ext e94).zi (z20.le (lx_ hZl rfl))) rfl (by kernel_rfl) fun xr107 v105 r107 e106 hw9=>?_)))
  obtain rfl:=r107
  exact pi_done rfl e106 rfl
 · 
  exact fun _ e109=>dk rfl rfl (deps_nil (lo aggInt (((hb4.ext (e7.trans (e10.trans (e14.trans (e17.trans e23))))).updN u30 (by omega)).ext e109) [.bool sa,.slice Aa na ca] rfl rfl rfl (pi_done rfl (Ext.refl _) rfl)))
 · 
  intro v115 e116
  have hw8:=hw7.trans e116
  refine dk rfl rfl (dk rfl rfl (deps_nil (cl (vs:= [.agg #[.bool sa,.slice Aa na ca]]) hw8 (g_zint_Sign (hx.ext hw8) (lx_ la rfl)) rfl (by kernel_rfl) fun xr129 v127 r129 e128 hw9=>?_)))
  obtain rfl:=r129
  exact pi_done rfl e128 rfl
 · 
  exact fun _ _=>dk rfl rfl (dk rfl rfl (dk rfl rfl (deps_nil (wl_cmp rfl rfl rfl false (ne_f hsg) (by decide) (pi_done rfl (Ext.refl _) rfl)))))
 · 
  exact fun _ _=>dk rfl rfl (dk rfl rfl (deps_nil (pu (v:= .bool false) rfl (by kernel_rfl) (pi_done rfl (Ext.refl _) rfl))))
 · 
  intro v159 e160
  have hw8:=hw7.trans e160
  refine dk rfl rfl (dk rfl rfl (dk rfl rfl (dk rfl rfl (dk rfl rfl (dk rfl rfl (dk rfl rfl (dk rfl rfl (dk rfl rfl (dk rfl rfl (dk rfl rfl (dk rfl rfl (dk rfl rfl (deps_nil ?_)))))))))))))
  refine wl_nil (eo_np (eo_then (cw_false rfl (cw_skip (eo_then (sr (lo aggInt (((hb4.ext (e7.trans (e10.trans (e14.trans (e17.trans e23))))).updN u30 (by omega)).ext e160) [.bool sa,.slice Aa na ca] rfl rfl rfl ?_)))))))
  have L226:ln ((Int.natAbs x:Int))≤1048576:=(by rw [ln_abs];exact Lx)
  refine cl (vs:= [.agg #[.bool sa,.slice Aa na ca]]) hw8 (g_zint_Abs hw8.size (hx.ext hw8) (lx_ la rfl)) rfl (by kernel_rfl) fun xr229 v227 r229 e228 hw9=>?_
  obtain⟨s230,A230,n230,c230,rfl,z230⟩:=r229
  refine cl (vs:= [.agg #[.bool s230,.slice A230 n230 c230]]) hw9 (g_ztext_a hls z230.zi (z230.le (lx_ L226 rfl)) (hS.ext hw9)) rfl (by kernel_rfl) fun xr233 v231 r233 e232 hw10=>?_
  obtain rfl:=r233
  refine wl_pureE rfl rfl (v:= .int .i64 (((strB ls).size:Nat):Int)) (v':= .int .i64 ((ls.length:Nat):Int)) (by decide) (by kernel_rfl) (by rw [strB_size]) (mv 1 rfl (ne_ (cw_seq (cw_seq ?_))))
  by_cases hmore:n<dL (Int.natAbs x)
  · 
   have hS:10^((X-n)+1)=10^((X-n)+1):=rfl
   by_cases hXe:X=ls.length-1
   · 
    refine cw_region (mv 2 rfl (wl_ar rfl rfl rfl ((ls.length-1:Nat):Int) (ai_sub (a:=ls.length) (b:=1) rfl rfl (by omega) (by omega)) (by decide) (wl_cmp rfl rfl rfl false (cb_ne_f (a:=X) (b:=ls.length-1) rfl rfl (by omega)) (by decide) (mv 4 rfl (pu (v:= .bool false) rfl (by kernel_rfl) (ne_ (cw_false rfl (cw_skip (eo_then (cw_seq (cw_seq ?_)))))))))))
    obtain⟨S,hS⟩:∃T,10^(X-n+1)=T:=⟨_,rfl⟩
    obtain⟨hc1,hc2⟩:=rnd_two hx0 hmore hn1 (by rw [←hX,hdl];exact hXe) hZ (hX▸hS)
    have hSl:ln ((S:Nat):Int)≤67108867:=Nat.le_trans (ln_ten hS) (by omega)
    obtain⟨c1,hcc1⟩:∃c,cmp3 (Int.natAbs ((x-Z*((S:Nat):Int))+(x-Z*((S:Nat):Int)))) (Int.natAbs ((S:Nat):Int))=c:=⟨_,rfl⟩
    refine cw_region (mv 2 rfl (wl_cmp rfl rfl rfl false (cb_lt_f (a:=X) (b:=n) rfl rfl (by omega)) (by decide) (ne_ (cw_false rfl (cw_skip (eo_then (sr (mv 2 rfl (wl_ar rfl rfl rfl ((X-n:Nat):Int) (ai_sub (a:=X) (b:=n) rfl rfl (by omega) (by omega)) (by decide) (wl_ar rfl rfl rfl (((X-n)+1:Nat):Int) (ai_add (a:=X-n) (b:=1) rfl rfl (by omega)) (by decide) (cl (vs:= [.int .i64 (((X-n)+1:Nat):Int)]) hw10 (g_ten7 hS hw10.size (by omega)) rfl (by kernel_rfl) fun xr236 v234 r236 e235 hw11=>?_)))))))))))
    obtain⟨s237,A237,n237,c237,rfl,z237⟩:=r236
    refine alq [F0,S0] hw11 (hb29.ext (e160.trans (e228.trans (e232.trans e235)))).lt (fun _=>by kernel_rfl) rfl fun g238 v239 hb241 ge242 q243 e240 hw12=>(so aggInt hb241 [.bool s237,.slice A237 n237 c237] hw12 ge242 rfl rfl rfl rfl fun v244 hb246 u247 hw13=>(ne_ (cw_seq ?_)))
    have L249:ln (Z*((S:Nat):Int))≤67108908:=Nat.le_trans (ln_mul hZl hSl) (by decide)
    have L251:ln (x-(Z*((S:Nat):Int)))≤67108909:=Nat.le_trans (ln_sub Lx L249) (by decide)
    have L253:ln ((x-(Z*((S:Nat):Int)))+(x-(Z*((S:Nat):Int))))≤67108910:=Nat.le_trans (ln_add L251 L251) (by decide)
    refine cw_draw mix 8 [] [Is (.agg #[.bool sa,.slice Aa na ca]),Is (.agg #[.bool s20,.slice A20 n20 c20]),Is (.agg #[.bool s237,.slice A237 n237 c237]),ZR w.heap.size (Z*((S:Nat):Int)),ZR w.heap.size (x-(Z*((S:Nat):Int))),ZR w.heap.size ((x-(Z*((S:Nat):Int)))+(x-(Z*((S:Nat):Int)))),Is (.agg #[.bool s237,.slice A237 n237 c237]),Is (.int .i64 c1)] [[],[],[],[1,2],[0,3],[4],[],[5,6]] [[],[],[],[1,2],[0,1,2,3],[0,1,2,3,4],[],[0,1,2,3,4,5,6],[0,1,2,3,4,5,6,7]] rfl
     (obs_cons rfl rfl (hob rfl rfl ?_) (obs_cons rfl rfl (hob rfl rfl ?_) (obs_cons rfl rfl (hob rfl rfl ?_) (obs_cons rfl rfl (hob rfl rfl ?_) (obs_cons rfl rfl (hob rfl rfl ?_) (obs_cons rfl rfl (hob rfl rfl ?_) (obs_cons rfl rfl (hob rfl rfl ?_) (obs_cons rfl rfl (hob rfl rfl ?_) obs_nil)))))))) ?_
    · 
     exact fun _ e256=>deps_nil (lo aggInt (((((hb4.ext (e7.trans (e10.trans (e14.trans (e17.trans e23))))).updN u30 (by omega)).ext (e160.trans (e228.trans (e232.trans (e235.trans e240))))).updN u247 (by omega)).ext e256) [.bool sa,.slice Aa na ca] rfl rfl rfl (pi_done rfl (Ext.refl _) rfl))
    · 
     exact fun _ e258=>deps_nil (lo aggInt (((hb29.ext (e160.trans (e228.trans (e232.trans (e235.trans e240))))).updN u247 (by omega)).ext e258) [.bool s20,.slice A20 n20 c20] rfl rfl rfl (pi_done rfl (Ext.refl _) rfl))
    · 
     exact fun _ e260=>deps_nil (lo aggInt (hb246.ext e260) [.bool s237,.slice A237 n237 c237] rfl rfl rfl (pi_done rfl (Ext.refl _) rfl))
    · 
     intro v261 e262
     have hw14:=hw13.trans e262
     refine dk rfl rfl (dk rfl rfl (deps_nil ?_))
     have L273:ln (Z*((S:Nat):Int))≤67108908:=Nat.le_trans (ln_mul hZl hSl) (by decide)
     refine cl (vs:= [.agg #[.bool s20,.slice A20 n20 c20],.agg #[.bool s237,.slice A237 n237 c237]]) hw14 (g_zint_Mul hw14.size (((((z20.ext e23).updT hb24 u30).ext (e160.trans (e228.trans (e232.trans (e235.trans e240))))).updT hb241 u247).ext e262).zi (z20.le (lx_ hZl rfl)) (((z237.ext e240).updT hb241 u247).ext e262).zi (z237.le (lx_ hSl rfl))) rfl (by kernel_rfl) fun xr276 v274 r276 e275 hw15=>?_
     obtain⟨s277,A277,n277,c277,rfl,z277⟩:=r276
     exact pi_done rfl e275 ⟨_,_,_,_,rfl,z277⟩
    · 
     intro v278 e279
     have hw14:=hw13.trans e279
     refine dk rfl rfl (deps_cons rfl rfl fun x285 y286 h287 e288 f289=>?_)
     obtain⟨s290,A290,n290,c290,rfl,z290⟩:=h287
     have z290:=z290.ext f289
     refine deps_nil ?_
     have L291:ln (x-(Z*((S:Nat):Int)))≤67108909:=Nat.le_trans (ln_sub Lx L249) (by decide)
     refine cl (vs:= [.agg #[.bool sa,.slice Aa na ca],.agg #[.bool s290,.slice A290 n290 c290]]) hw14 (g_zint_Sub hw14.size (hx.ext hw14) (lx_ la rfl) z290.zi (z290.le (lx_ L249 rfl))) rfl (by kernel_rfl) fun xr294 v292 r294 e293 hw15=>?_
     obtain⟨s295,A295,n295,c295,rfl,z295⟩:=r294
     exact pi_done rfl e293 ⟨_,_,_,_,rfl,z295⟩
    · 
     intro v296 e297
     have hw14:=hw13.trans e297
     refine deps_cons rfl rfl fun x298 y299 h300 e301 f302=>?_
     obtain⟨s303,A303,n303,c303,rfl,z303⟩:=h300
     have z303:=z303.ext f302
     refine deps_nil ?_
     have L304:ln ((x-(Z*((S:Nat):Int)))+(x-(Z*((S:Nat):Int))))≤67108910:=Nat.le_trans (ln_add L251 L251) (by decide)
     refine cl (vs:= [.agg #[.bool s303,.slice A303 n303 c303]]) hw14 (g_twice7 hw14.size z303.zi (z303.le (lx_ L251 rfl))) rfl (by kernel_rfl) fun xr307 v305 r307 e306 hw15=>?_
     obtain⟨s308,A308,n308,c308,rfl,z308⟩:=r307
     exact pi_done rfl e306 ⟨_,_,_,_,rfl,z308⟩
    · 
     exact fun _ e310=>deps_nil (lo aggInt (hb246.ext e310) [.bool s237,.slice A237 n237 c237] rfl rfl rfl (pi_done rfl (Ext.refl _) rfl))
    · 
     intro v311 e312
     have hw14:=hw13.trans e312
     refine deps_cons rfl rfl fun x313 y314 h315 e316 f317=>?_
     obtain⟨s318,A318,n318,c318,rfl,z318⟩:=h315
     have z318:=z318.ext f317
     refine dk rfl rfl (deps_nil (cl (vs:= [.agg #[.bool s318,.slice A318 n318 c318],.agg #[.bool s237,.slice A237 n237 c237]]) hw14 (g7_CmpAbs_n hcc1 z318.zi (z318.le (lx_ L253 rfl)) (((z237.ext e240).updT hb241 u247).ext e312).zi (z237.le (lx_ hSl rfl))) rfl (by kernel_rfl) fun xr326 v324 r326 e325 hw15=>?_))
     obtain rfl:=r326
     exact pi_done rfl e325 rfl
    · 
     intro v327 e328
     have hw14:=hw13.trans e328
     refine dk rfl rfl (dk rfl rfl (dk rfl rfl (deps_cons rfl rfl fun x344 y345 h346 e347 f348=>?_)))
     obtain⟨s349,A349,n349,c349,rfl,z349⟩:=h346
     have z349:=z349.ext f348
     refine deps_cons rfl rfl fun x350 y351 h352 e353 f354=>?_
     obtain⟨s355,A355,n355,c355,rfl,z355⟩:=h352
     have z355:=z355.ext f354
     refine deps_cons rfl rfl fun x356 y357 h358 e359 f360=>?_
     obtain⟨s361,A361,n361,c361,rfl,z361⟩:=h358
     have z361:=z361.ext f360
     refine dk rfl rfl (dk rfl rfl (deps_nil (mv 1 rfl (wl_nil (eo_np (eo_then (cw_seq (sr (mv 2 rfl (wl_cmp rfl rfl rfl false (cb_eq_f (a:=X) (b:=ls.length) rfl rfl (by omega)) (by decide) (ne_ (cw_false rfl (cw_skip ?_)))))))))))))
     refine eo_then (cw_seq ?_)
     by_cases hc10:c1<0
     · 
      refine cw_region (mv 1 rfl (wl_cmp rfl rfl rfl true (lt_t hc10) (by decide) (mv 17 rfl (pu (v:= .bool true) rfl (by kernel_rfl) (mv 1 rfl (ne_ (cw_ret (eo_ret [.bool true] rfl ⟨rfl,trivial⟩ ?_))))))))
      exact⟨_,rfl,rfl,hw14⟩
     · 
      have hcp:=cmp3_pos (a:=(x-Z*((S:Nat):Int)+(x-Z*((S:Nat):Int))).natAbs) (b:=S)
      rw [Int.natAbs_natCast] at hcc1
      have hc00:c1=0:=by omega
      have hev:(wd (Int.natAbs Z)).getD 0 0%2=0:=by rw [wd_par,hZa];exact hc2 (cmp3_zero.1 (by omega))
      have hnz:0<n20:=by have h:=((((((z20.ext e23).updT hb24 u30).ext (e160.trans (e228.trans (e232.trans (e235.trans e240))))).updT hb241 u247).ext e328)).len;have h2:ln Z≠0:=fun e=>hZ0 (Int.natAbs_eq_zero.1 (len_wd_zero.1 e));omega
      refine cw_region (mv 1 rfl (wl_cmp rfl rfl rfl false (lt_f (by omega)) (by decide) (mv 2 rfl (wl_cmp rfl rfl rfl true (eq_t hc00) (by decide) (mv 1 rfl (pf g21 1 rfl (by kernel_rfl) (wl_load rfl rfl (load_cell cellWords (((hb29.ext (e160.trans (e228.trans (e232.trans (e235.trans e240))))).updN u247 (by omega)).ext e328) rfl) (by decide) (pu (v:= .int .i64 ((n20:Nat):Int)) rfl (by kernel_rfl) (wl_cmp rfl rfl rfl true (cb_gt_t (a:=n20) (b:=0) rfl rfl (by omega)) (by decide) (pu (v:= .bool true) rfl (by kernel_rfl) (mv 1 rfl (pf g21 1 rfl (by kernel_rfl) (wl_load rfl rfl (load_cell cellWords (((hb29.ext (e160.trans (e228.trans (e232.trans (e235.trans e240))))).updN u247 (by omega)).ext e328) rfl) (by decide) ?_)))))))))))))
      have rd372:=((((((z20.ext e23).updT hb24 u30).ext (e160.trans (e228.trans (e232.trans (e235.trans e240))))).updT hb241 u247).ext e328)).rd
      obtain⟨p373,hp373,hc373,hv373⟩:=(rd372).at (i:=0) (by omega)
      refine wl_idx rfl rfl rfl un_u64 sz_u64 0 rfl (by omega) p373 hp373 (by decide) (wl_load rfl rfl (load_cell1 ag_u64 hc373) (by decide) (wl_ar rfl rfl rfl ((((wd (Int.natAbs Z)).getD 0 0)%2:Nat):Int) (au_rem (a:=(wd (Int.natAbs Z)).getD 0 0) (b:=2) rfl rfl (by omega)) (by decide) (wl_cmp rfl rfl rfl true (cb_eq_t (a:=((wd (Int.natAbs Z)).getD 0 0)%2) (b:=0) rfl rfl (by omega)) (by decide) (pu (v:= .bool true) rfl (by kernel_rfl) (pu (v:= .bool true) rfl (by kernel_rfl) (mv 1 rfl (ne_ (cw_ret (eo_ret [.bool true] rfl ⟨rfl,trivial⟩ ?_)))))))))
      exact⟨_,rfl,rfl,hw14⟩
   · 
    obtain⟨T,hT⟩:∃T,10^(X-n)=T:=⟨_,rfl⟩
    obtain⟨S,hS⟩:∃T,10^(X-n+1)=T:=⟨_,rfl⟩
    obtain⟨hX1,hX2,hX3⟩:=rnd_three hx0 hmore hn1 (by rw [←hX,hdl];exact hXe) hZ (hX▸hS) (hX▸hT)
    rw [←hX] at hX1
    refine cw_region (mv 2 rfl (wl_ar rfl rfl rfl ((ls.length-1:Nat):Int) (ai_sub (a:=ls.length) (b:=1) rfl rfl (by omega) (by omega)) (by decide) (wl_cmp rfl rfl rfl true (cb_ne_t (a:=X) (b:=ls.length-1) rfl rfl (by omega)) (by decide) (mv 3 rfl (wl_cmp rfl rfl rfl false (cb_ne_f (a:=X) (b:=ls.length) rfl rfl (by omega)) (by decide) (pu (v:= .bool false) rfl (by kernel_rfl) (ne_ (cw_false rfl (cw_skip (eo_then (cw_seq (cw_seq ?_))))))))))))
    have hSl:ln ((S:Nat):Int)≤67108867:=Nat.le_trans (ln_ten hS) (by omega)
    obtain⟨c1,hcc1⟩:∃c,cmp3 (Int.natAbs ((x-Z*((S:Nat):Int))+(x-Z*((S:Nat):Int)))) (Int.natAbs ((S:Nat):Int))=c:=⟨_,rfl⟩
    have hTl:ln ((T:Nat):Int)≤67108867:=Nat.le_trans (ln_ten hT) (by omega)
    obtain⟨V,hV⟩:∃T,10^(n-1)=T:=⟨_,rfl⟩
    have hVl:ln ((V:Nat):Int)≤41:=Nat.le_trans (ln_ten hV) (by omega)
    obtain⟨c2,hcc2⟩:∃c,cmp3 (Int.natAbs ((x-Z*((S:Nat):Int))+(x-Z*((S:Nat):Int)))) (Int.natAbs ((T:Nat):Int))=c:=⟨_,rfl⟩
    obtain⟨c3,hcc3⟩:∃c,cmp3 (Int.natAbs Z) (Int.natAbs ((V:Nat):Int))=c:=⟨_,rfl⟩
    have hc2:c2≤0:=by rw [←hcc2,Int.natAbs_natCast];have:=cmp3_pos (a:=(x-Z*((S:Nat):Int)+(x-Z*((S:Nat):Int))).natAbs) (b:=T);omega
    have hc3:c3=0:=by rw [←hcc3,Int.natAbs_natCast];exact cmp3_zero.2 (by rw [hX3,hV])
    refine cw_region (mv 2 rfl (wl_cmp rfl rfl rfl false (cb_lt_f (a:=X) (b:=n) rfl rfl (by omega)) (by decide) (ne_ (cw_false rfl (cw_skip (eo_then (sr (mv 2 rfl (wl_ar rfl rfl rfl ((X-n:Nat):Int) (ai_sub (a:=X) (b:=n) rfl rfl (by omega) (by omega)) (by decide) (wl_ar rfl rfl rfl (((X-n)+1:Nat):Int) (ai_add (a:=X-n) (b:=1) rfl rfl (by omega)) (by decide) (cl (vs:= [.int .i64 (((X-n)+1:Nat):Int)]) hw10 (g_ten7 hS hw10.size (by omega)) rfl (by kernel_rfl) fun xr376 v374 r376 e375 hw11=>?_)))))))))))
    obtain⟨s377,A377,n377,c377,rfl,z377⟩:=r376
    refine alq [F0,S0] hw11 (hb29.ext (e160.trans (e228.trans (e232.trans e375)))).lt (fun _=>by kernel_rfl) rfl fun g378 v379 hb381 ge382 q383 e380 hw12=>(so aggInt hb381 [.bool s377,.slice A377 n377 c377] hw12 ge382 rfl rfl rfl rfl fun v384 hb386 u387 hw13=>(ne_ (cw_seq ?_)))
    have L389:ln (Z*((S:Nat):Int))≤67108908:=Nat.le_trans (ln_mul hZl hSl) (by decide)
    have L391:ln (x-(Z*((S:Nat):Int)))≤67108909:=Nat.le_trans (ln_sub Lx L389) (by decide)
    have L393:ln ((x-(Z*((S:Nat):Int)))+(x-(Z*((S:Nat):Int))))≤67108910:=Nat.le_trans (ln_add L391 L391) (by decide)
    refine cw_draw mix 8 [] [Is (.agg #[.bool sa,.slice Aa na ca]),Is (.agg #[.bool s20,.slice A20 n20 c20]),Is (.agg #[.bool s377,.slice A377 n377 c377]),ZR w.heap.size (Z*((S:Nat):Int)),ZR w.heap.size (x-(Z*((S:Nat):Int))),ZR w.heap.size ((x-(Z*((S:Nat):Int)))+(x-(Z*((S:Nat):Int)))),Is (.agg #[.bool s377,.slice A377 n377 c377]),Is (.int .i64 c1)] [[],[],[],[1,2],[0,3],[4],[],[5,6]] [[],[],[],[1,2],[0,1,2,3],[0,1,2,3,4],[],[0,1,2,3,4,5,6],[0,1,2,3,4,5,6,7]] rfl
     (obs_cons rfl rfl (hob rfl rfl ?_) (obs_cons rfl rfl (hob rfl rfl ?_) (obs_cons rfl rfl (hob rfl rfl ?_) (obs_cons rfl rfl (hob rfl rfl ?_) (obs_cons rfl rfl (hob rfl rfl ?_) (obs_cons rfl rfl (hob rfl rfl ?_) (obs_cons rfl rfl (hob rfl rfl ?_) (obs_cons rfl rfl (hob rfl rfl ?_) obs_nil)))))))) ?_
    · 
     exact fun _ e396=>deps_nil (lo aggInt (((((hb4.ext (e7.trans (e10.trans (e14.trans (e17.trans e23))))).updN u30 (by omega)).ext (e160.trans (e228.trans (e232.trans (e375.trans e380))))).updN u387 (by omega)).ext e396) [.bool sa,.slice Aa na ca] rfl rfl rfl (pi_done rfl (Ext.refl _) rfl))
    · 
     exact fun _ e398=>deps_nil (lo aggInt (((hb29.ext (e160.trans (e228.trans (e232.trans (e375.trans e380))))).updN u387 (by omega)).ext e398) [.bool s20,.slice A20 n20 c20] rfl rfl rfl (pi_done rfl (Ext.refl _) rfl))
    · 
     exact fun _ e400=>deps_nil (lo aggInt (hb386.ext e400) [.bool s377,.slice A377 n377 c377] rfl rfl rfl (pi_done rfl (Ext.refl _) rfl))
    · 
     intro v401 e402
     have hw14:=hw13.trans e402
     refine dk rfl rfl (dk rfl rfl (deps_nil ?_))
     have L413:ln (Z*((S:Nat):Int))≤67108908:=Nat.le_trans (ln_mul hZl hSl) (by decide)
     refine cl (vs:= [.agg #[.bool s20,.slice A20 n20 c20],.agg #[.bool s377,.slice A377 n377 c377]]) hw14 (g_zint_Mul hw14.size (((((z20.ext e23).updT hb24 u30).ext (e160.trans (e228.trans (e232.trans (e375.trans e380))))).updT hb381 u387).ext e402).zi (z20.le (lx_ hZl rfl)) (((z377.ext e380).updT hb381 u387).ext e402).zi (z377.le (lx_ hSl rfl))) rfl (by kernel_rfl) fun xr416 v414 r416 e415 hw15=>?_
     obtain⟨s417,A417,n417,c417,rfl,z417⟩:=r416
     exact pi_done rfl e415 ⟨_,_,_,_,rfl,z417⟩
    · 
     intro v418 e419
     have hw14:=hw13.trans e419
     refine dk rfl rfl (deps_cons rfl rfl fun x425 y426 h427 e428 f429=>?_)
     obtain⟨s430,A430,n430,c430,rfl,z430⟩:=h427
     have z430:=z430.ext f429
     refine deps_nil ?_
     have L431:ln (x-(Z*((S:Nat):Int)))≤67108909:=Nat.le_trans (ln_sub Lx L389) (by decide)
     refine cl (vs:= [.agg #[.bool sa,.slice Aa na ca],.agg #[.bool s430,.slice A430 n430 c430]]) hw14 (g_zint_Sub hw14.size (hx.ext hw14) (lx_ la rfl) z430.zi (z430.le (lx_ L389 rfl))) rfl (by kernel_rfl) fun xr434 v432 r434 e433 hw15=>?_
     obtain⟨s435,A435,n435,c435,rfl,z435⟩:=r434
     exact pi_done rfl e433 ⟨_,_,_,_,rfl,z435⟩
    · 
     intro v436 e437
     have hw14:=hw13.trans e437
     refine deps_cons rfl rfl fun x438 y439 h440 e441 f442=>?_
     obtain⟨s443,A443,n443,c443,rfl,z443⟩:=h440
     have z443:=z443.ext f442
     refine deps_nil ?_
     have L444:ln ((x-(Z*((S:Nat):Int)))+(x-(Z*((S:Nat):Int))))≤67108910:=Nat.le_trans (ln_add L391 L391) (by decide)
     refine cl (vs:= [.agg #[.bool s443,.slice A443 n443 c443]]) hw14 (g_twice7 hw14.size z443.zi (z443.le (lx_ L391 rfl))) rfl (by kernel_rfl) fun xr447 v445 r447 e446 hw15=>?_
     obtain⟨s448,A448,n448,c448,rfl,z448⟩:=r447
     exact pi_done rfl e446 ⟨_,_,_,_,rfl,z448⟩
    · 
     exact fun _ e450=>deps_nil (lo aggInt (hb386.ext e450) [.bool s377,.slice A377 n377 c377] rfl rfl rfl (pi_done rfl (Ext.refl _) rfl))
    · 
     intro v451 e452
     have hw14:=hw13.trans e452
     refine deps_cons rfl rfl fun x453 y454 h455 e456 f457=>?_
     obtain⟨s458,A458,n458,c458,rfl,z458⟩:=h455
     have z458:=z458.ext f457
     refine dk rfl rfl (deps_nil (cl (vs:= [.agg #[.bool s458,.slice A458 n458 c458],.agg #[.bool s377,.slice A377 n377 c377]]) hw14 (g7_CmpAbs_n hcc1 z458.zi (z458.le (lx_ L393 rfl)) (((z377.ext e380).updT hb381 u387).ext e452).zi (z377.le (lx_ hSl rfl))) rfl (by kernel_rfl) fun xr466 v464 r466 e465 hw15=>?_))
     obtain rfl:=r466
     exact pi_done rfl e465 rfl
    · 
     intro v467 e468
     have hw14:=hw13.trans e468
     refine dk rfl rfl (dk rfl rfl (dk rfl rfl (deps_cons rfl rfl fun x484 y485 h486 e487 f488=>?_)))
     obtain⟨s489,A489,n489,c489,rfl,z489⟩:=h486
     have z489:=z489.ext f488
     refine deps_cons rfl rfl fun x490 y491 h492 e493 f494=>?_
     obtain⟨s495,A495,n495,c495,rfl,z495⟩:=h492
     have z495:=z495.ext f494
     refine deps_cons rfl rfl fun x496 y497 h498 e499 f500=>?_
     obtain⟨s501,A501,n501,c501,rfl,z501⟩:=h498
     have z501:=z501.ext f500
     refine dk rfl rfl (dk rfl rfl (deps_nil (mv 1 rfl (wl_nil (eo_np (eo_then (cw_seq (sr (mv 2 rfl (wl_cmp rfl rfl rfl true (cb_eq_t (a:=X) (b:=ls.length) rfl rfl (by omega)) (by decide) (ne_ (cw_true rfl (cw_seq ?_)))))))))))))
     refine cw_region (mv 2 rfl (wl_ar rfl rfl rfl ((X-n:Nat):Int) (ai_sub (a:=X) (b:=n) rfl rfl (by omega) (by omega)) (by decide) (cl (vs:= [.int .i64 ((X-n:Nat):Int)]) hw14 (g_ten7 hT hw14.size (by omega)) rfl (by kernel_rfl) fun xr514 v512 r514 e513 hw15=>?_)))
     obtain⟨s515,A515,n515,c515,rfl,z515⟩:=r514
     refine alq [F0,S0] hw15 (hb386.ext (e468.trans e513)).lt (fun _=>by kernel_rfl) rfl fun g516 v517 hb519 ge520 q521 e518 hw16=>(so aggInt hb519 [.bool s515,.slice A515 n515 c515] hw16 ge520 rfl rfl rfl rfl fun v522 hb524 u525 hw17=>(ne_ (cw_seq ?_)))
     have L527:ln (Z*((S:Nat):Int))≤67108908:=Nat.le_trans (ln_mul hZl hSl) (by decide)
     have L529:ln (x-(Z*((S:Nat):Int)))≤67108909:=Nat.le_trans (ln_sub Lx L527) (by decide)
     have L531:ln ((x-(Z*((S:Nat):Int)))+(x-(Z*((S:Nat):Int))))≤67108910:=Nat.le_trans (ln_add L529 L529) (by decide)
     refine cw_draw mix 8 [] [Is (.agg #[.bool sa,.slice Aa na ca]),Is (.agg #[.bool s20,.slice A20 n20 c20]),Is (.agg #[.bool s377,.slice A377 n377 c377]),ZR w.heap.size (Z*((S:Nat):Int)),ZR w.heap.size (x-(Z*((S:Nat):Int))),ZR w.heap.size ((x-(Z*((S:Nat):Int)))+(x-(Z*((S:Nat):Int)))),Is (.agg #[.bool s515,.slice A515 n515 c515]),Is (.int .i64 c2)] [[],[],[],[1,2],[0,3],[4],[],[5,6]] [[],[],[],[1,2],[0,1,2,3],[0,1,2,3,4],[],[0,1,2,3,4,5,6],[0,1,2,3,4,5,6,7]] rfl
      (obs_cons rfl rfl (hob rfl rfl ?_) (obs_cons rfl rfl (hob rfl rfl ?_) (obs_cons rfl rfl (hob rfl rfl ?_) (obs_cons rfl rfl (hob rfl rfl ?_) (obs_cons rfl rfl (hob rfl rfl ?_) (obs_cons rfl rfl (hob rfl rfl ?_) (obs_cons rfl rfl (hob rfl rfl ?_) (obs_cons rfl rfl (hob rfl rfl ?_) obs_nil)))))))) ?_
     · 
      exact fun _ e534=>deps_nil (lo aggInt (((((((hb4.ext (e7.trans (e10.trans (e14.trans (e17.trans e23))))).updN u30 (by omega)).ext (e160.trans (e228.trans (e232.trans (e375.trans e380))))).updN u387 (by omega)).ext (e468.trans (e513.trans e518))).updN u525 (by omega)).ext e534) [.bool sa,.slice Aa na ca] rfl rfl rfl (pi_done rfl (Ext.refl _) rfl))
     · 
      exact fun _ e536=>deps_nil (lo aggInt (((((hb29.ext (e160.trans (e228.trans (e232.trans (e375.trans e380))))).updN u387 (by omega)).ext (e468.trans (e513.trans e518))).updN u525 (by omega)).ext e536) [.bool s20,.slice A20 n20 c20] rfl rfl rfl (pi_done rfl (Ext.refl _) rfl))
     · 
      exact fun _ e538=>deps_nil (lo aggInt (((hb386.ext (e468.trans (e513.trans e518))).updN u525 (by omega)).ext e538) [.bool s377,.slice A377 n377 c377] rfl rfl rfl (pi_done rfl (Ext.refl _) rfl))
     · 
      intro v539 e540
      have hw18:=hw17.trans e540
      refine dk rfl rfl (dk rfl rfl (deps_nil ?_))
      have L551:ln (Z*((S:Nat):Int))≤67108908:=Nat.le_trans (ln_mul hZl hSl) (by decide)
      refine cl (vs:= [.agg #[.bool s20,.slice A20 n20 c20],.agg #[.bool s377,.slice A377 n377 c377]]) hw18 (g_zint_Mul hw18.size (((((((z20.ext e23).updT hb24 u30).ext (e160.trans (e228.trans (e232.trans (e375.trans e380))))).updT hb381 u387).ext (e468.trans (e513.trans e518))).updT hb519 u525).ext e540).zi (z20.le (lx_ hZl rfl)) (((((z377.ext e380).updT hb381 u387).ext (e468.trans (e513.trans e518))).updT hb519 u525).ext e540).zi (z377.le (lx_ hSl rfl))) rfl (by kernel_rfl) fun xr554 v552 r554 e553 hw19=>?_
      obtain⟨s555,A555,n555,c555,rfl,z555⟩:=r554
      exact pi_done rfl e553 ⟨_,_,_,_,rfl,z555⟩
     · 
      intro v556 e557
      have hw18:=hw17.trans e557
      refine dk rfl rfl (deps_cons rfl rfl fun x563 y564 h565 e566 f567=>?_)
      obtain⟨s568,A568,n568,c568,rfl,z568⟩:=h565
      have z568:=z568.ext f567
      refine deps_nil ?_
      have L569:ln (x-(Z*((S:Nat):Int)))≤67108909:=Nat.le_trans (ln_sub Lx L527) (by decide)
      refine cl (vs:= [.agg #[.bool sa,.slice Aa na ca],.agg #[.bool s568,.slice A568 n568 c568]]) hw18 (g_zint_Sub hw18.size (hx.ext hw18) (lx_ la rfl) z568.zi (z568.le (lx_ L527 rfl))) rfl (by kernel_rfl) fun xr572 v570 r572 e571 hw19=>?_
      obtain⟨s573,A573,n573,c573,rfl,z573⟩:=r572
      exact pi_done rfl e571 ⟨_,_,_,_,rfl,z573⟩
     · 
      intro v574 e575
      have hw18:=hw17.trans e575
      refine deps_cons rfl rfl fun x576 y577 h578 e579 f580=>?_
      obtain⟨s581,A581,n581,c581,rfl,z581⟩:=h578
      have z581:=z581.ext f580
      refine deps_nil ?_
      have L582:ln ((x-(Z*((S:Nat):Int)))+(x-(Z*((S:Nat):Int))))≤67108910:=Nat.le_trans (ln_add L529 L529) (by decide)
      refine cl (vs:= [.agg #[.bool s581,.slice A581 n581 c581]]) hw18 (g_twice7 hw18.size z581.zi (z581.le (lx_ L529 rfl))) rfl (by kernel_rfl) fun xr585 v583 r585 e584 hw19=>?_
      obtain⟨s586,A586,n586,c586,rfl,z586⟩:=r585
      exact pi_done rfl e584 ⟨_,_,_,_,rfl,z586⟩
     · 
      exact fun _ e588=>deps_nil (lo aggInt (hb524.ext e588) [.bool s515,.slice A515 n515 c515] rfl rfl rfl (pi_done rfl (Ext.refl _) rfl))
     · 
      intro v589 e590
      have hw18:=hw17.trans e590
      refine deps_cons rfl rfl fun x591 y592 h593 e594 f595=>?_
      obtain⟨s596,A596,n596,c596,rfl,z596⟩:=h593
      have z596:=z596.ext f595
      refine dk rfl rfl (deps_nil (cl (vs:= [.agg #[.bool s596,.slice A596 n596 c596],.agg #[.bool s515,.slice A515 n515 c515]]) hw18 (g7_CmpAbs_n hcc2 z596.zi (z596.le (lx_ L531 rfl)) (((z515.ext e518).updT hb519 u525).ext e590).zi (z515.le (lx_ hTl rfl))) rfl (by kernel_rfl) fun xr604 v602 r604 e603 hw19=>?_))
      obtain rfl:=r604
      exact pi_done rfl e603 rfl
     · 
      intro v605 e606
      have hw18:=hw17.trans e606
      refine dk rfl rfl (dk rfl rfl (dk rfl rfl (deps_cons rfl rfl fun x622 y623 h624 e625 f626=>?_)))
      obtain⟨s627,A627,n627,c627,rfl,z627⟩:=h624
      have z627:=z627.ext f626
      refine deps_cons rfl rfl fun x628 y629 h630 e631 f632=>?_
      obtain⟨s633,A633,n633,c633,rfl,z633⟩:=h630
      have z633:=z633.ext f632
      refine deps_cons rfl rfl fun x634 y635 h636 e637 f638=>?_
      obtain⟨s639,A639,n639,c639,rfl,z639⟩:=h636
      have z639:=z639.ext f638
      refine dk rfl rfl (dk rfl rfl (deps_nil (mv 1 rfl (wl_nil (eo_np (eo_then (cw_seq ?_)))))))
      refine cw_draw mix 10 [] [Is (.int .i64 c2),Is (.bool true),Is (.bool true),Is (.agg #[.bool s20,.slice A20 n20 c20]),Is (.int .i64 ((n:Nat):Int)),Is (.int .i64 ((n-1:Nat):Int)),ZR w.heap.size (((V:Nat):Int)),Is (.int .i64 c3),Is (.bool true),Is (.bool true)] [[],[0],[1],[2],[2],[2,4],[2,5],[2,3,6],[2,7],[2,8]] [[],[0],[0,1],[0,1,2],[0,1,2],[0,1,2,4],[0,1,2,4,5],[0,1,2,3,4,5,6],[0,1,2,3,4,5,6,7],[0,1,2,3,4,5,6,7,8],[0,1,2,3,4,5,6,7,8,9]] rfl
       (obs_cons rfl rfl (hob rfl rfl ?_) (obs_cons rfl rfl (hob rfl rfl ?_) (obs_cons rfl rfl (hob rfl rfl ?_) (obs_cons rfl rfl (hob rfl rfl ?_) (obs_cons rfl rfl (hob rfl rfl ?_) (obs_cons rfl rfl (hob rfl rfl ?_) (obs_cons rfl rfl (hob rfl rfl ?_) (obs_cons rfl rfl (hob rfl rfl ?_) (obs_cons rfl rfl (hob rfl rfl ?_) (obs_cons rfl rfl (hob rfl rfl ?_) obs_nil)))))))))) ?_
      · 
       exact fun _ _=>deps_nil (mv 1 rfl (pi_done rfl (Ext.refl _) rfl))
      · 
       exact fun _ _=>dk rfl rfl (deps_nil (wl_cmp rfl rfl rfl true (le_t hc2) (by decide) (pi_done rfl (Ext.refl _) rfl)))
      · 
       exact fun _ _=>dk rfl rfl (deps_nil (mv 1 rfl (pi_done rfl (Ext.refl _) rfl)))
      · 
       exact fun _ e668=>dk rfl rfl (deps_nil (lo aggInt (((((hb29.ext (e160.trans (e228.trans (e232.trans (e375.trans e380))))).updN u387 (by omega)).ext (e468.trans (e513.trans e518))).updN u525 (by omega)).ext (e606.trans e668)) [.bool s20,.slice A20 n20 c20] rfl rfl rfl (pi_done rfl (Ext.refl _) rfl)))
      · 
       exact fun _ _=>dk rfl rfl (deps_nil (mv 1 rfl (pi_done rfl (Ext.refl _) rfl)))
      · 
       exact fun _ _=>dk rfl rfl (dk rfl rfl (deps_nil (wl_ar rfl rfl rfl ((n-1:Nat):Int) (ai_sub (a:=n) (b:=1) rfl rfl (by omega) (by omega)) (by decide) (pi_done rfl (Ext.refl _) rfl))))
      · 
       intro v693 e694
       have hw19:=hw18.trans e694
       refine dk rfl rfl (dk rfl rfl (deps_nil (cl (vs:= [.int .i64 ((n-1:Nat):Int)]) hw19 (g_ten7 hV hw19.size (by omega)) rfl (by kernel_rfl) fun xr707 v705 r707 e706 hw20=>?_)))
       obtain⟨s708,A708,n708,c708,rfl,z708⟩:=r707
       exact pi_done rfl e706 ⟨_,_,_,_,rfl,z708⟩
      · 
       intro v709 e710
       have hw19:=hw18.trans e710
       refine dk rfl rfl (dk rfl rfl (deps_cons rfl rfl fun x721 y722 h723 e724 f725=>?_))
       obtain⟨s726,A726,n726,c726,rfl,z726⟩:=h723
       have z726:=z726.ext f725
       refine deps_nil (cl (vs:= [.agg #[.bool s20,.slice A20 n20 c20],.agg #[.bool s726,.slice A726 n726 c726]]) hw19 (g7_CmpAbs_n hcc3 (((((((z20.ext e23).updT hb24 u30).ext (e160.trans (e228.trans (e232.trans (e375.trans e380))))).updT hb381 u387).ext (e468.trans (e513.trans e518))).updT hb519 u525).ext (e606.trans e710)).zi (z20.le (lx_ hZl rfl)) z726.zi (z726.le (lx_ hVl rfl))) rfl (by kernel_rfl) fun xr729 v727 r729 e728 hw20=>?_)
       obtain rfl:=r729
       exact pi_done rfl e728 rfl
      · 
       exact fun _ _=>dk rfl rfl (dk rfl rfl (deps_nil (wl_cmp rfl rfl rfl true (eq_t hc3) (by decide) (pi_done rfl (Ext.refl _) rfl))))
      · 
       exact fun _ _=>dk rfl rfl (dk rfl rfl (deps_nil (pu (v:= .bool true) rfl (by kernel_rfl) (pi_done rfl (Ext.refl _) rfl))))
      · 
       intro v754 e755
       have hw19:=hw18.trans e755
       refine dk rfl rfl (dk rfl rfl (dk rfl rfl (dk rfl rfl (dk rfl rfl (dk rfl rfl (deps_cons rfl rfl fun x786 y787 h788 e789 f790=>?_))))))
       obtain⟨s791,A791,n791,c791,rfl,z791⟩:=h788
       have z791:=z791.ext f790
       refine dk rfl rfl (dk rfl rfl (dk rfl rfl (deps_nil (mv 1 rfl (wl_nil (eo_np (eo_then (cw_ret (eo_thenR (eo_ret [.bool true] rfl ⟨rfl,trivial⟩ ?_))))))))))
       exact⟨_,rfl,rfl,hw19⟩
  · 
   obtain⟨hX1,hX2,hX3⟩:=rnd_one hx0 hmore hn1 hZ
   rw [←hX] at hX1 hX2 hX3
   refine cw_region (mv 2 rfl (wl_ar rfl rfl rfl ((ls.length-1:Nat):Int) (ai_sub (a:=ls.length) (b:=1) rfl rfl (by omega) (by omega)) (by decide) (wl_cmp rfl rfl rfl false (cb_ne_f (a:=X) (b:=ls.length-1) rfl rfl (by omega)) (by decide) (mv 4 rfl (pu (v:= .bool false) rfl (by kernel_rfl) (ne_ (cw_false rfl (cw_skip (eo_then (cw_seq (cw_seq ?_)))))))))))
   obtain⟨U,hU⟩:∃T,10^(n-1-X)=T:=⟨_,rfl⟩
   rw [hU] at hX3
   have hUl:ln ((U:Nat):Int)≤41:=Nat.le_trans (ln_ten hU) (by omega)
   refine cw_region (mv 2 rfl (wl_cmp rfl rfl rfl true (cb_lt_t (a:=X) (b:=n) rfl rfl (by omega)) (by decide) (ne_ (cw_true rfl (cw_seq ?_)))))
   have L808:ln (x*((U:Nat):Int))≤1048617:=Nat.le_trans (ln_mul Lx hUl) (by decide)
   refine cw_draw mix 10 [] [Is (.agg #[.bool s20,.slice A20 n20 c20]),Is (.agg #[.bool sa,.slice Aa na ca]),Is (.int .i64 ((n:Nat):Int)),Is (.int .i64 ((n-1:Nat):Int)),Is (.int .i64 ((X:Nat):Int)),Is (.int .i64 (((n-1)-X:Nat):Int)),ZR w.heap.size (((U:Nat):Int)),ZR w.heap.size (x*((U:Nat):Int)),Is (.int .i64 (scmp Z (x*((U:Nat):Int)))),Is (.bool true)] [[],[],[],[2],[],[3,4],[5],[1,6],[0,7],[8]] [[],[],[],[2],[],[2,3,4],[2,3,4,5],[1,2,3,4,5,6],[0,1,2,3,4,5,6,7],[0,1,2,3,4,5,6,7,8],[0,1,2,3,4,5,6,7,8,9]] rfl
    (obs_cons rfl rfl (hob rfl rfl ?_) (obs_cons rfl rfl (hob rfl rfl ?_) (obs_cons rfl rfl (hob rfl rfl ?_) (obs_cons rfl rfl (hob rfl rfl ?_) (obs_cons rfl rfl (hob rfl rfl ?_) (obs_cons rfl rfl (hob rfl rfl ?_) (obs_cons rfl rfl (hob rfl rfl ?_) (obs_cons rfl rfl (hob rfl rfl ?_) (obs_cons rfl rfl (hob rfl rfl ?_) (obs_cons rfl rfl (hob rfl rfl ?_) obs_nil)))))))))) ?_
   · 
    exact fun _ e811=>deps_nil (lo aggInt (hb29.ext (e160.trans (e228.trans (e232.trans e811)))) [.bool s20,.slice A20 n20 c20] rfl rfl rfl (pi_done rfl (Ext.refl _) rfl))
   · 
    exact fun _ e813=>deps_nil (lo aggInt (((hb4.ext (e7.trans (e10.trans (e14.trans (e17.trans e23))))).updN u30 (by omega)).ext (e160.trans (e228.trans (e232.trans e813)))) [.bool sa,.slice Aa na ca] rfl rfl rfl (pi_done rfl (Ext.refl _) rfl))
   · 
    exact fun _ _=>deps_nil (mv 1 rfl (pi_done rfl (Ext.refl _) rfl))
   · 
    exact fun _ _=>dk rfl rfl (deps_nil (wl_ar rfl rfl rfl ((n-1:Nat):Int) (ai_sub (a:=n) (b:=1) rfl rfl (by omega) (by omega)) (by decide) (pi_done rfl (Ext.refl _) rfl)))
   · 
    exact fun _ _=>deps_nil (mv 1 rfl (pi_done rfl (Ext.refl _) rfl))
   · 
    exact fun _ _=>dk rfl rfl (dk rfl rfl (deps_nil (wl_ar rfl rfl rfl (((n-1)-X:Nat):Int) (ai_sub (a:=n-1) (b:=X) rfl rfl (by omega) (by omega)) (by decide) (pi_done rfl (Ext.refl _) rfl))))
   · 
    intro v837 e838
    have hw11:=hw10.trans e838
    refine dk rfl rfl (deps_nil (cl (vs:= [.int .i64 (((n-1)-X:Nat):Int)]) hw11 (g_ten7 hU hw11.size (by omega)) rfl (by kernel_rfl) fun xr846 v844 r846 e845 hw12=>?_))
    obtain⟨s847,A847,n847,c847,rfl,z847⟩:=r846
    exact pi_done rfl e845 ⟨_,_,_,_,rfl,z847⟩
   · 
    intro v848 e849
    have hw11:=hw10.trans e849
    refine dk rfl rfl (deps_cons rfl rfl fun x855 y856 h857 e858 f859=>?_)
    obtain⟨s860,A860,n860,c860,rfl,z860⟩:=h857
    have z860:=z860.ext f859
    refine deps_nil ?_
    have L861:ln (x*((U:Nat):Int))≤1048617:=Nat.le_trans (ln_mul Lx hUl) (by decide)
    refine cl (vs:= [.agg #[.bool sa,.slice Aa na ca],.agg #[.bool s860,.slice A860 n860 c860]]) hw11 (g_zint_Mul hw11.size (hx.ext hw11) (lx_ la rfl) z860.zi (z860.le (lx_ hUl rfl))) rfl (by kernel_rfl) fun xr864 v862 r864 e863 hw12=>?_
    obtain⟨s865,A865,n865,c865,rfl,z865⟩:=r864
    exact pi_done rfl e863 ⟨_,_,_,_,rfl,z865⟩
   · 
    intro v866 e867
    have hw11:=hw10.trans e867
    refine dk rfl rfl (deps_cons rfl rfl fun x873 y874 h875 e876 f877=>?_)
    obtain⟨s878,A878,n878,c878,rfl,z878⟩:=h875
    have z878:=z878.ext f877
    refine deps_nil (cl (vs:= [.agg #[.bool s20,.slice A20 n20 c20],.agg #[.bool s878,.slice A878 n878 c878]]) hw11 (g_zint_Cmp (((z20.ext e23).updT hb24 u30).ext (e160.trans (e228.trans (e232.trans e867)))).zi (z20.le (lx_ hZl rfl)) z878.zi (z878.le (lx_ L808 rfl))) rfl (by kernel_rfl) fun xr881 v879 r881 e880 hw12=>?_)
    obtain rfl:=r881
    exact pi_done rfl e880 rfl
   · 
    exact fun _ _=>dk rfl rfl (deps_nil (wl_cmp rfl rfl rfl true (scmp_c_t hX3) (by decide) (pi_done rfl (Ext.refl _) rfl)))
   · 
    intro v889 e890
    have hw11:=hw10.trans e890
    refine dk rfl rfl (dk rfl rfl (dk rfl rfl (dk rfl rfl (dk rfl rfl (dk rfl rfl (deps_cons rfl rfl fun x921 y922 h923 e924 f925=>?_))))))
    obtain⟨s926,A926,n926,c926,rfl,z926⟩:=h923
    have z926:=z926.ext f925
    refine deps_cons rfl rfl fun x927 y928 h929 e930 f931=>?_
    obtain⟨s932,A932,n932,c932,rfl,z932⟩:=h929
    have z932:=z932.ext f931
    refine dk rfl rfl (dk rfl rfl (deps_nil (mv 1 rfl (wl_nil (eo_np (eo_then (cw_ret (eo_thenR (eo_ret [.bool true] rfl ⟨rfl,trivial⟩ ?_)))))))))
    exact⟨_,rfl,rfl,hw11⟩
theorem law_ApproxRounds {w:World}{s:Bool}{A:Option Addr}{n cap:Nat}{x:Int}(hx:Zi w s A n cap x) (la:n≤1048576){k:Int}(_: -9223372036854775808≤k) (_:k≤9223372036854775807) (hS:Signs w):Calls Tryd.prog 4 #[.agg #[.bool s,.slice A n cap],.int .i64 k] w (BoolP true w):=by
 by_cases hk:k<1∨40<k
 ·exact (law_ApproxRounds_bad hx la hk).mono fun e w' h=>gv_bool7u _ _ h
 ·obtain⟨m,rfl⟩:=Int.eq_ofNat_of_zero_le (show 0≤k by omega)
  by_cases h0:x=0
  ·exact (law_ApproxRounds_zero hx la hS h0 (by omega) (by omega)).mono fun e w' h=>gv_bool7u _ _ h
  ·exact (law_ApproxRounds_main hx la hS h0 (by omega) (by omega)).mono fun e w' h=>gv_bool7u _ _ h
end Go.Proofs.YtipklngcpmkfhaaDoor
