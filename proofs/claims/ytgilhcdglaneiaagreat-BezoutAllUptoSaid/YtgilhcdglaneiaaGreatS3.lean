/- Parts Ref3b, Ref3c, Ref3d, Zh, Bz, Ref5, Ref3f, joined. -/
import Derived.Test.YtgilhcdglaneiaaGreatS2

namespace Go.Proofs.YtgilhcdglaneiaaGreat
open Go.RowKit
def TK (g N q s:Nat) (l es:List Nat) (w:World) (e:Ending) (w':World):Prop:=
 e= .returned (.tuple #[])∧Upd g w w'∧∃l',Bk w' g 38 (l'.map W64)∧l'.length=N∧Wfb 4294967296 l'∧nb 4294967296 l'+q*nb 4294967296 es*4294967296^s=nb 4294967296 l
theorem takeOff_step {b:Nat}{l es:List Nat}{s i c q e T d d' c' Y:Nat}(h:nb b l+q*nb b (es.take i)*b^s=Y+b^(s+i)*c) (hk:s+i<l.length) (hd0:l.getD (s+i) 0=d) (hT:T=c+q*e) (he:nb b (es.take (i+1))=nb b (es.take i)+b^i*e)
  (hd:d'+T=d+b*c'):nb b (l.set (s+i) d')+q*nb b (es.take (i+1))*b^s=Y+b^(s+(i+1))*c':=by
 have h1:=nb_set b hk d'
 rw [hd0] at h1
 have e1:q*nb b (es.take (i+1))*b^s=q*nb b (es.take i)*b^s+b^(s+i)*(q*e):=by
  rw [he,Nat.mul_add,Nat.add_mul,Nat.pow_add]
  congr 1
  grind
 have e2:b^(s+i)*(d'+T)=b^(s+i)*(d+b*c'):=by rw [hd]
 have e3:b^(s+(i+1))*c'=b^(s+i)*(b*c'):=by rw [←Nat.add_assoc,Nat.pow_succ,Nat.mul_assoc]
 rw [hT] at e2
 simp only [Nat.mul_add] at e2
 rw [e1,e3]
 omega
theorem takeOff_more {b:Nat}{es:List Nat}{i:Nat}(h:es.length≤i):nb b (es.take (i+1))=nb b (es.take i)+b^i*0:=by
 rw [List.take_of_length_le (by omega),List.take_of_length_le h];rfl
theorem takeOff_done {l l' es:List Nat}{N s i m c q:Nat}(hw:Wfb 4294967296 l') (hl:l'.length=N) (he:es.length=m) (hs:s+m≤N) (hi:s+i≤N) (hq:q*nb 4294967296 es*4294967296^s≤nb 4294967296 l)
  (h:nb 4294967296 l'+q*nb 4294967296 (es.take i)*4294967296^s=nb 4294967296 l+4294967296^(s+i)*c) (hend:s+i=N∨m≤i∧c=0):nb 4294967296 l'+q*nb 4294967296 es*4294967296^s=nb 4294967296 l:=by
 have hmi:m≤i:=by omega
 rw [List.take_of_length_le (by omega)] at h
 have hc:c=0:=by
  rcases hend with h1 | h1
  ·have h2:=nb_lt hw
   rw [hl] at h2
   rw [h1] at h
   refine Nat.eq_zero_of_not_pos fun hp=>?_
   have h3:4294967296^N*1≤4294967296^N*c:=Nat.mul_le_mul_left _ hp
   omega
  ·exact h1.2
 rw [hc,Nat.mul_zero,Nat.add_zero] at h
 exact h
set_option maxHeartbeats 4000000 in
theorem ref3_takeOff {w:World}{g N m cd q s:Nat}{D:Option Addr}{l es:List Nat}(hb0:Bk w g 38 (l.map W64)) (hl0:l.length=N) (hN:N≤1099511627776) (hwl:Wfb 4294967296 l) (hy:Rd w D m cd es) (hwe:Wfb 4294967296 es) (hne:0<cd→∀a,D=some a→a.block≠g) (hqb:q<4294967296) (hs:s+m≤N) (hq:q*nb 4294967296 es*4294967296^s≤nb 4294967296 l):
    Calls Tryz.prog 122 #[.slice (some ⟨g,0,none⟩) N N,.slice D m cd,.int .u64 ((q:Nat):Int),.int .i64 ((s:Nat):Int)] w (TK g N q s l es w):=by
 have hle:=hy.len
 refine sx_enter Tryz.func122 rfl (n:=84) rfl (bq rfl) (args:= [.slice (some ⟨g,0,none⟩) N N,.slice D m cd,.int .u64 ((q:Nat):Int),.int .i64 ((s:Nat):Int)]) (cw_keep [(0,.slice (some ⟨g,0,none⟩) N N),(1,.slice D m cd),(2,.int .u64 ((q:Nat):Int)),(3,.int .i64 ((s:Nat):Int))] ⟨rfl,rfl,rfl,rfl,trivial⟩ (sr (mv 1 rfl (ne_ (sr (mv 1 rfl (ne_ (cw_block ?_))))))))
 refine cw_loop (T:=World×Nat×Nat×List Nat)
  (fun⟨wr,i,c,l'⟩=> [(0,.slice (some ⟨g,0,none⟩) N N),(1,.slice D m cd),(2,.int .u64 ((q:Nat):Int)),(3,.int .i64 ((s:Nat):Int)),(8,.int .u64 ((c:Nat):Int)),(9,.int .i64 ((i:Nat):Int))])
  (fun⟨wr,i,c,l'⟩=>wr)
  (fun⟨wr,i,c,l'⟩=>(Upd g w wr)∧(s+i≤N)∧(c≤4294967296)∧(Bk wr g 38 (l'.map W64))∧(l'.length=N)∧(Wfb 4294967296 l')∧(nb 4294967296 l'+q*nb 4294967296 (es.take i)*4294967296^s=nb 4294967296 l+4294967296^(s+i)*c)∧(Rd wr D m cd es))
  (fun⟨wr,i,c,l'⟩=>N-(s+i))
  (⟨w,0,0,l⟩:World×Nat×Nat×List Nat) ⟨Upd.refl g w,(by omega),(by decide),hb0,hl0,hwl,by simp [nb],hy⟩ rfl ⟨rfl,rfl,rfl,rfl,rfl,rfl,trivial⟩ ?_
 rintro⟨wr,i,c,l'⟩ ⟨hu,hi,hc,hb,hl,hwf,hv,rl1⟩
 refine cw_re [(0,.slice (some ⟨g,0,none⟩) N N),(1,.slice D m cd),(2,.int .u64 ((q:Nat):Int)),(3,.int .i64 ((s:Nat):Int)),(8,.int .u64 ((c:Nat):Int)),(9,.int .i64 ((i:Nat):Int))] wr rfl ⟨rfl,rfl,rfl,rfl,rfl,rfl,trivial⟩ (cw_seq (cw_seq ?_))
 by_cases hsi:s+i<N
 · 
  by_cases him:i<m
  · 
   refine cw_region (mv 2 rfl (wl_ar rfl rfl rfl ((s+i:Nat):Int) (ai_add (a:=s) (b:=i) rfl rfl (by omega)) (by decide) (mv 1 rfl (pu (v:= .int .i64 ((N:Nat):Int)) rfl (by kernel_rfl) (wl_cmp rfl rfl rfl true (cb_lt_t (a:=s+i) (b:=N) rfl rfl (by omega)) (by decide) (mv 3 rfl (pu (v:= .int .i64 ((m:Nat):Int)) rfl (by kernel_rfl) (wl_cmp rfl rfl rfl true (cb_lt_t (a:=i) (b:=m) rfl rfl (by omega)) (by decide) (mv 3 rfl (pu (v:= .bool true) rfl (by kernel_rfl) (pu (v:= .bool true) rfl (by kernel_rfl) (ne_ (cw_true rfl ?_)))))))))))))
   refine cw_skip (eo_then (cw_seq (cw_block (sr (mv 2 rfl (ne_ (cw_seq (sr (mv 2 rfl (pu (v:= .int .i64 ((m:Nat):Int)) rfl (by kernel_rfl) (wl_cmp rfl rfl rfl true (cb_lt_t (a:=i) (b:=m) rfl rfl (by omega)) (by decide) (ne_ (cw_true rfl ?_)))))))))))))
   have hey:=Wfb_getD (b:=4294967296) (by decide) hwe i
   have hm:q*(es.getD i 0)≤4294967295*4294967295:=Nat.mul_le_mul (by omega) (by omega)
   refine cw_region (mv 4 rfl ?_)
   obtain⟨p1,hp1,hc1,hv1⟩:=(rl1).at (i:=i) (by omega)
   refine wl_idx rfl rfl rfl un_u64 sz_u64 i rfl (by omega) p1 hp1 (by decide) (wl_load rfl rfl (load_cell1 ag_u64 hc1) (by decide) (wl_ar rfl rfl rfl ((q*(es.getD i 0):Nat):Int) (au_mul (a:=q) (b:=es.getD i 0) rfl rfl (by omega)) (by decide) (wl_ar rfl rfl rfl ((c+(q*(es.getD i 0)):Nat):Int) (au_add (a:=c) (b:=q*(es.getD i 0)) rfl rfl (by omega)) (by decide) (mv 1 rfl (ne_ (sr (mv 1 rfl (wl_ar rfl rfl rfl (((c+(q*(es.getD i 0)))%4294967296:Nat):Int) (au_rem (a:=c+(q*(es.getD i 0))) (b:=4294967296) rfl rfl (by omega)) (by decide) (mv 1 rfl (ne_ (sr (mv 1 rfl (wl_ar rfl rfl rfl (((c+(q*(es.getD i 0)))/4294967296:Nat):Int) (au_quo (a:=c+(q*(es.getD i 0))) (b:=4294967296) rfl rfl (by omega) (by omega)) (by decide) ?_)))))))))))))
   refine mv 1 rfl (ne_ (cw_seq ?_))
   have hd:=Wfb_getD (b:=4294967296) (by decide) hwf (s+i)
   by_cases hlow:l'.getD (s+i) 0<(c+(q*(es.getD i 0)))%4294967296
   · 
    refine cw_region (mv 3 rfl (wl_ar rfl rfl rfl ((s+i:Nat):Int) (ai_add (a:=s) (b:=i) rfl rfl (by omega)) (by decide) (wl_idx rfl rfl rfl un_u64 sz_u64 (s+i) rfl (by omega) ⟨g,s+i,none⟩ (arr_at _ _) (by decide) (wl_load rfl rfl (load_word ag_u64 hb (by rw [hl];omega)) (by decide) (mv 1 rfl (wl_cmp rfl rfl rfl true (cb_lt_t (a:=l'.getD (s+i) 0) (b:=(c+(q*(es.getD i 0)))%4294967296) rfl rfl (by omega)) (by decide) (ne_ (cw_true rfl (sr (mv 3 rfl (wl_ar rfl rfl rfl ((s+i:Nat):Int) (ai_add (a:=s) (b:=i) rfl rfl (by omega)) (by decide) (mv 3 rfl (wl_ar rfl rfl rfl ((s+i:Nat):Int) (ai_add (a:=s) (b:=i) rfl rfl (by omega)) (by decide) ?_)))))))))))))
    refine wl_idx rfl rfl rfl un_u64 sz_u64 (s+i) rfl (by omega) ⟨g,s+i,none⟩ (arr_at _ _) (by decide) (wl_load rfl rfl (load_word ag_u64 hb (by rw [hl];omega)) (by decide) (wl_ar rfl rfl rfl (((l'.getD (s+i) 0)+4294967296:Nat):Int) (au_add (a:=l'.getD (s+i) 0) (b:=4294967296) rfl rfl (by omega)) (by decide) (mv 1 rfl (wl_ar rfl rfl rfl ((((l'.getD (s+i) 0)+4294967296)-((c+(q*(es.getD i 0)))%4294967296):Nat):Int) (au_sub (a:=(l'.getD (s+i) 0)+4294967296) (b:=(c+(q*(es.getD i 0)))%4294967296) rfl rfl (by omega) (by omega)) (by decide) (wl_idx rfl rfl rfl un_u64 sz_u64 (s+i) rfl (by omega) ⟨g,s+i,none⟩ (arr_at _ _) (by decide) ?_)))))
    have hb3:=hb
    refine wl_stored1 rfl rfl rfl sz_u64 rfl hb3 (len_map (by rw [hl];omega)) rfl ((l'.set (s+i) (((l'.getD (s+i) 0)+4294967296)-((c+(q*(es.getD i 0)))%4294967296))).map W64) (map_W64_set _ _ _) fun v2 hb4 u5 hs6=>(ne_ (cw_region (mv 1 rfl (wl_ar rfl rfl rfl ((((c+(q*(es.getD i 0)))/4294967296)+1:Nat):Int) (au_add (a:=(c+(q*(es.getD i 0)))/4294967296) (b:=1) rfl rfl (by omega)) (by decide) (mv 1 rfl (wl_nil (eo_block_normal (eo_then (cw_region (mv 1 rfl (wl_ar rfl rfl rfl ((i+1:Nat):Int) (ai_add (a:=i) (b:=1) rfl rfl (by omega)) (by decide) (mv 1 rfl (wl_nil ?_)))))))))))))
    refine eo_round (⟨v2,i+1,_,_⟩:World×Nat×Nat×List Nat) ⟨hu.trans u5,(by omega),(by omega),hb4,(len_set (l:=l') (hl)),Wfb_set hwf _ (by omega),takeOff_step hv (by omega) rfl rfl (nb_take_snoc _ _ _ (by omega)) (by omega),(Rd.updL rl1 u5 hne)⟩ (show N-(s+(i+1))<N-(s+i) by omega) rfl ⟨rfl,rfl,rfl,rfl,rfl,rfl,trivial⟩
   · 
    refine cw_region (mv 3 rfl (wl_ar rfl rfl rfl ((s+i:Nat):Int) (ai_add (a:=s) (b:=i) rfl rfl (by omega)) (by decide) (wl_idx rfl rfl rfl un_u64 sz_u64 (s+i) rfl (by omega) ⟨g,s+i,none⟩ (arr_at _ _) (by decide) (wl_load rfl rfl (load_word ag_u64 hb (by rw [hl];omega)) (by decide) (mv 1 rfl (wl_cmp rfl rfl rfl false (cb_lt_f (a:=l'.getD (s+i) 0) (b:=(c+(q*(es.getD i 0)))%4294967296) rfl rfl (by omega)) (by decide) (ne_ (cw_false rfl (cw_region (mv 3 rfl (wl_ar rfl rfl rfl ((s+i:Nat):Int) (ai_add (a:=s) (b:=i) rfl rfl (by omega)) (by decide) (mv 3 rfl (wl_ar rfl rfl rfl ((s+i:Nat):Int) (ai_add (a:=s) (b:=i) rfl rfl (by omega)) (by decide) ?_)))))))))))))
    refine wl_idx rfl rfl rfl un_u64 sz_u64 (s+i) rfl (by omega) ⟨g,s+i,none⟩ (arr_at _ _) (by decide) (wl_load rfl rfl (load_word ag_u64 hb (by rw [hl];omega)) (by decide) (mv 1 rfl (wl_ar rfl rfl rfl (((l'.getD (s+i) 0)-((c+(q*(es.getD i 0)))%4294967296):Nat):Int) (au_sub (a:=l'.getD (s+i) 0) (b:=(c+(q*(es.getD i 0)))%4294967296) rfl rfl (by omega) (by omega)) (by decide) (wl_idx rfl rfl rfl un_u64 sz_u64 (s+i) rfl (by omega) ⟨g,s+i,none⟩ (arr_at _ _) (by decide) ?_))))
    have hb8:=hb
    refine wl_stored1 rfl rfl rfl sz_u64 rfl hb8 (len_map (by rw [hl];omega)) rfl ((l'.set (s+i) ((l'.getD (s+i) 0)-((c+(q*(es.getD i 0)))%4294967296))).map W64) (map_W64_set _ _ _) fun v7 hb9 u10 hs11=>(wl_nil (eo_block_normal (eo_then (cw_region (mv 1 rfl (wl_ar rfl rfl rfl ((i+1:Nat):Int) (ai_add (a:=i) (b:=1) rfl rfl (by omega)) (by decide) (mv 1 rfl (wl_nil (eo_round (⟨v7,i+1,_,_⟩:World×Nat×Nat×List Nat) ⟨hu.trans u10,(by omega),(by omega),hb9,(len_set (l:=l') (hl)),Wfb_set hwf _ (by omega),takeOff_step hv (by omega) rfl rfl (nb_take_snoc _ _ _ (by omega)) (by omega),(Rd.updL rl1 u10 hne)⟩ (show N-(s+(i+1))<N-(s+i) by omega) rfl ⟨rfl,rfl,rfl,rfl,rfl,rfl,trivial⟩)))))))))
  · 
   by_cases hcp:c>0
   · 
    refine cw_region (mv 2 rfl (wl_ar rfl rfl rfl ((s+i:Nat):Int) (ai_add (a:=s) (b:=i) rfl rfl (by omega)) (by decide) (mv 1 rfl (pu (v:= .int .i64 ((N:Nat):Int)) rfl (by kernel_rfl) (wl_cmp rfl rfl rfl true (cb_lt_t (a:=s+i) (b:=N) rfl rfl (by omega)) (by decide) (mv 3 rfl (pu (v:= .int .i64 ((m:Nat):Int)) rfl (by kernel_rfl) (wl_cmp rfl rfl rfl false (cb_lt_f (a:=i) (b:=m) rfl rfl (by omega)) (by decide) (mv 2 rfl (wl_cmp rfl rfl rfl true (cb_gt_t (a:=c) (b:=0) rfl rfl (by omega)) (by decide) (pu (v:= .bool true) rfl (by kernel_rfl) (pu (v:= .bool true) rfl (by kernel_rfl) (wl_nil ?_)))))))))))))
    refine eo_then (cw_true rfl (cw_skip (eo_then (cw_seq (cw_block (sr (mv 2 rfl (ne_ (cw_seq (sr (mv 2 rfl (pu (v:= .int .i64 ((m:Nat):Int)) rfl (by kernel_rfl) (wl_cmp rfl rfl rfl false (cb_lt_f (a:=i) (b:=m) rfl rfl (by omega)) (by decide) ?_)))))))))))))
    refine ne_ (cw_false rfl (cw_skip (eo_then (sr (mv 1 rfl (wl_ar rfl rfl rfl ((c%4294967296:Nat):Int) (au_rem (a:=c) (b:=4294967296) rfl rfl (by omega)) (by decide) (mv 1 rfl (ne_ (sr (mv 1 rfl (wl_ar rfl rfl rfl ((c/4294967296:Nat):Int) (au_quo (a:=c) (b:=4294967296) rfl rfl (by omega) (by omega)) (by decide) (mv 1 rfl (wl_nil ?_)))))))))))))
    refine eo_then (cw_seq ?_)
    have hd:=Wfb_getD (b:=4294967296) (by decide) hwf (s+i)
    by_cases hlow:l'.getD (s+i) 0<c%4294967296
    · 
     refine cw_region (mv 3 rfl (wl_ar rfl rfl rfl ((s+i:Nat):Int) (ai_add (a:=s) (b:=i) rfl rfl (by omega)) (by decide) (wl_idx rfl rfl rfl un_u64 sz_u64 (s+i) rfl (by omega) ⟨g,s+i,none⟩ (arr_at _ _) (by decide) (wl_load rfl rfl (load_word ag_u64 hb (by rw [hl];omega)) (by decide) (mv 1 rfl (wl_cmp rfl rfl rfl true (cb_lt_t (a:=l'.getD (s+i) 0) (b:=c%4294967296) rfl rfl (by omega)) (by decide) (ne_ (cw_true rfl (sr (mv 3 rfl (wl_ar rfl rfl rfl ((s+i:Nat):Int) (ai_add (a:=s) (b:=i) rfl rfl (by omega)) (by decide) (mv 3 rfl (wl_ar rfl rfl rfl ((s+i:Nat):Int) (ai_add (a:=s) (b:=i) rfl rfl (by omega)) (by decide) ?_)))))))))))))
     refine wl_idx rfl rfl rfl un_u64 sz_u64 (s+i) rfl (by omega) ⟨g,s+i,none⟩ (arr_at _ _) (by decide) (wl_load rfl rfl (load_word ag_u64 hb (by rw [hl];omega)) (by decide) (wl_ar rfl rfl rfl (((l'.getD (s+i) 0)+4294967296:Nat):Int) (au_add (a:=l'.getD (s+i) 0) (b:=4294967296) rfl rfl (by omega)) (by decide) (mv 1 rfl (wl_ar rfl rfl rfl ((((l'.getD (s+i) 0)+4294967296)-(c%4294967296):Nat):Int) (au_sub (a:=(l'.getD (s+i) 0)+4294967296) (b:=c%4294967296) rfl rfl (by omega) (by omega)) (by decide) (wl_idx rfl rfl rfl un_u64 sz_u64 (s+i) rfl (by omega) ⟨g,s+i,none⟩ (arr_at _ _) (by decide) ?_)))))
     have hb13:=hb
     refine wl_stored1 rfl rfl rfl sz_u64 rfl hb13 (len_map (by rw [hl];omega)) rfl ((l'.set (s+i) (((l'.getD (s+i) 0)+4294967296)-(c%4294967296))).map W64) (map_W64_set _ _ _) fun v12 hb14 u15 hs16=>(ne_ (cw_region (mv 1 rfl (wl_ar rfl rfl rfl (((c/4294967296)+1:Nat):Int) (au_add (a:=c/4294967296) (b:=1) rfl rfl (by omega)) (by decide) (mv 1 rfl (wl_nil (eo_block_normal (eo_then (cw_region (mv 1 rfl (wl_ar rfl rfl rfl ((i+1:Nat):Int) (ai_add (a:=i) (b:=1) rfl rfl (by omega)) (by decide) (mv 1 rfl (wl_nil ?_)))))))))))))
     refine eo_round (⟨v12,i+1,_,_⟩:World×Nat×Nat×List Nat) ⟨hu.trans u15,(by omega),(by omega),hb14,(len_set (l:=l') (hl)),Wfb_set hwf _ (by omega),takeOff_step hv (by omega) rfl (T:=c) (e:=0) (by simp) (takeOff_more (by omega)) (by omega),(Rd.updL rl1 u15 hne)⟩ (show N-(s+(i+1))<N-(s+i) by omega) rfl ⟨rfl,rfl,rfl,rfl,rfl,rfl,trivial⟩
    · 
     refine cw_region (mv 3 rfl (wl_ar rfl rfl rfl ((s+i:Nat):Int) (ai_add (a:=s) (b:=i) rfl rfl (by omega)) (by decide) (wl_idx rfl rfl rfl un_u64 sz_u64 (s+i) rfl (by omega) ⟨g,s+i,none⟩ (arr_at _ _) (by decide) (wl_load rfl rfl (load_word ag_u64 hb (by rw [hl];omega)) (by decide) (mv 1 rfl (wl_cmp rfl rfl rfl false (cb_lt_f (a:=l'.getD (s+i) 0) (b:=c%4294967296) rfl rfl (by omega)) (by decide) (ne_ (cw_false rfl (cw_region (mv 3 rfl (wl_ar rfl rfl rfl ((s+i:Nat):Int) (ai_add (a:=s) (b:=i) rfl rfl (by omega)) (by decide) (mv 3 rfl (wl_ar rfl rfl rfl ((s+i:Nat):Int) (ai_add (a:=s) (b:=i) rfl rfl (by omega)) (by decide) ?_)))))))))))))
     refine wl_idx rfl rfl rfl un_u64 sz_u64 (s+i) rfl (by omega) ⟨g,s+i,none⟩ (arr_at _ _) (by decide) (wl_load rfl rfl (load_word ag_u64 hb (by rw [hl];omega)) (by decide) (mv 1 rfl (wl_ar rfl rfl rfl (((l'.getD (s+i) 0)-(c%4294967296):Nat):Int) (au_sub (a:=l'.getD (s+i) 0) (b:=c%4294967296) rfl rfl (by omega) (by omega)) (by decide) (wl_idx rfl rfl rfl un_u64 sz_u64 (s+i) rfl (by omega) ⟨g,s+i,none⟩ (arr_at _ _) (by decide) ?_))))
     have hb18:=hb
     refine wl_stored1 rfl rfl rfl sz_u64 rfl hb18 (len_map (by rw [hl];omega)) rfl ((l'.set (s+i) ((l'.getD (s+i) 0)-(c%4294967296))).map W64) (map_W64_set _ _ _) fun v17 hb19 u20 hs21=>(wl_nil (eo_block_normal (eo_then (cw_region (mv 1 rfl (wl_ar rfl rfl rfl ((i+1:Nat):Int) (ai_add (a:=i) (b:=1) rfl rfl (by omega)) (by decide) (mv 1 rfl (wl_nil (eo_round (⟨v17,i+1,_,_⟩:World×Nat×Nat×List Nat) ⟨hu.trans u20,(by omega),(by omega),hb19,(len_set (l:=l') (hl)),Wfb_set hwf _ (by omega),takeOff_step hv (by omega) rfl (T:=c) (e:=0) (by simp) (takeOff_more (by omega)) (by omega),(Rd.updL rl1 u20 hne)⟩ (show N-(s+(i+1))<N-(s+i) by omega) rfl ⟨rfl,rfl,rfl,rfl,rfl,rfl,trivial⟩)))))))))
   · 
    refine cw_region (mv 2 rfl (wl_ar rfl rfl rfl ((s+i:Nat):Int) (ai_add (a:=s) (b:=i) rfl rfl (by omega)) (by decide) (mv 1 rfl (pu (v:= .int .i64 ((N:Nat):Int)) rfl (by kernel_rfl) (wl_cmp rfl rfl rfl true (cb_lt_t (a:=s+i) (b:=N) rfl rfl (by omega)) (by decide) (mv 3 rfl (pu (v:= .int .i64 ((m:Nat):Int)) rfl (by kernel_rfl) (wl_cmp rfl rfl rfl false (cb_lt_f (a:=i) (b:=m) rfl rfl (by omega)) (by decide) (mv 2 rfl (wl_cmp rfl rfl rfl false (cb_gt_f (a:=c) (b:=0) rfl rfl (by omega)) (by decide) (pu (v:= .bool false) rfl (by kernel_rfl) (pu (v:= .bool false) rfl (by kernel_rfl) (wl_nil ?_)))))))))))))
    refine eo_then (cw_false rfl (cw_exit (eo_thenX (eo_loopX (eo_block_here (eo_end [] rfl trivial ?_))))))
    exact⟨rfl,hu,l',hb,hl,hwf,takeOff_done hwf hl hle hs hi hq hv (Or.inr ⟨by omega,by omega⟩)⟩
 · 
  refine cw_region (mv 2 rfl (wl_ar rfl rfl rfl ((s+i:Nat):Int) (ai_add (a:=s) (b:=i) rfl rfl (by omega)) (by decide) (mv 1 rfl (pu (v:= .int .i64 ((N:Nat):Int)) rfl (by kernel_rfl) (wl_cmp rfl rfl rfl false (cb_lt_f (a:=s+i) (b:=N) rfl rfl (by omega)) (by decide) (mv 9 rfl (pu (v:= .bool false) rfl (by kernel_rfl) (ne_ (cw_false rfl (cw_exit (eo_thenX (eo_loopX (eo_block_here ?_)))))))))))))
  refine eo_end [] rfl trivial ?_
  exact⟨rfl,hu,l',hb,hl,hwf,takeOff_done hwf hl hle hs hi hq hv (Or.inl (by omega))⟩
theorem drop_getD3 {xs:List Nat}{k:Nat}(h:k<xs.length) (b:Nat):nb b (xs.drop k)=xs.getD k 0+b*nb b (xs.drop (k+1)):=by
 rw [List.drop_eq_getElem_cons h,nb_cons,List.getD_eq_getElem?_getD,List.getElem?_eq_getElem h];rfl
section
set_option linter.unusedSectionVars false
variable {xs es:List Nat}{n m s:Nat}(hx:xs.length=n) (he:es.length=m) (hs:s+m≤n) (hwx:Wfb 4294967296 xs) (hwe:Wfb 4294967296 es)
include hx he hs hwx hwe
theorem goes_start (hbig:nb 4294967296 xs<4294967296^(s+m+1)) (h0:s+m<n→xs.getD (s+m) 0=0):nb 4294967296 (xs.drop (s+m))=nb 4294967296 (es.drop m):=by
 rw [List.drop_of_length_le (l:=es) (by omega),nb_nil]
 by_cases hlt:s+m<n
 ·have h1:=nb_split 4294967296 xs (s+m) (by omega)
  have h2:=drop_getD3 (xs:=xs) (k:=s+m) (by omega) 4294967296
  rw [h0 hlt,Nat.zero_add] at h2
  rw [h2] at h1⊢
  refine Nat.mul_eq_zero.2 (Or.inr (Nat.eq_zero_of_not_pos fun hp=>?_))
  rw [Nat.pow_succ,←Nat.mul_assoc] at*
  have h3:4294967296^(s+m)*4294967296*1≤4294967296^(s+m)*4294967296*nb 4294967296 (xs.drop (s+m+1)):=Nat.mul_le_mul_left _ hp
  omega
 ·rw [List.drop_of_length_le (by omega),nb_nil]
theorem goes_top (h0:s+m<n) (hp:0<xs.getD (s+m) 0):nb 4294967296 es*4294967296^s≤nb 4294967296 xs:=by
 have h1:=nb_split 4294967296 xs (s+m) (by omega)
 have h2:=drop_getD3 (xs:=xs) (k:=s+m) (by omega) 4294967296
 have h3:=nb_lt hwe
 rw [he] at h3
 have h4:nb 4294967296 es*4294967296^s≤4294967296^m*4294967296^s:=Nat.mul_le_mul_right _ (Nat.le_of_lt h3)
 rw [←Nat.pow_add,Nat.add_comm m s] at h4
 have h5:4294967296^(s+m)*1≤4294967296^(s+m)*nb 4294967296 (xs.drop (s+m)):=Nat.mul_le_mul_left _ (by omega)
 omega
theorem goes_lt {j:Nat}(hj:j<m) (h:nb 4294967296 (xs.drop (s+(j+1)))=nb 4294967296 (es.drop (j+1))) (hd:xs.getD (s+j) 0<es.getD j 0):¬nb 4294967296 es*4294967296^s≤nb 4294967296 xs:=by
 have h2:=drop_getD3 (xs:=xs) (k:=s+j) (by omega) 4294967296
 have h3:=drop_getD3 (xs:=es) (k:=j) (by omega) 4294967296
 rw [Nat.add_assoc,h] at h2
 have h4:=nb_split 4294967296 xs (s+j) (by omega)
 have h5:=nb_split 4294967296 es j (by omega)
 have h6:=nb_take_lt (by decide) hwx (s+j)
 have h7:4294967296^(s+j)*(nb 4294967296 (xs.drop (s+j))+1)≤4294967296^(s+j)*nb 4294967296 (es.drop j):=Nat.mul_le_mul_left _ (by omega)
 have h8:4294967296^(s+j)*nb 4294967296 (es.drop j)≤nb 4294967296 es*4294967296^s:=by
  rw [h5,Nat.add_mul,Nat.pow_add,Nat.mul_assoc,Nat.mul_comm (4294967296^s)]
  exact Nat.le_add_left _ _
 rw [Nat.mul_add] at h7
 omega
theorem goes_gt {j:Nat}(hj:j<m) (h:nb 4294967296 (xs.drop (s+(j+1)))=nb 4294967296 (es.drop (j+1))) (hd:xs.getD (s+j) 0>es.getD j 0):nb 4294967296 es*4294967296^s≤nb 4294967296 xs:=by
 have h2:=drop_getD3 (xs:=xs) (k:=s+j) (by omega) 4294967296
 have h3:=drop_getD3 (xs:=es) (k:=j) (by omega) 4294967296
 rw [Nat.add_assoc,h] at h2
 have h4:=nb_split 4294967296 xs (s+j) (by omega)
 have h5:=nb_split 4294967296 es j (by omega)
 have h6:=nb_take_lt (by decide) hwe j
 have h7:4294967296^j*(nb 4294967296 (es.drop j)+1)≤4294967296^j*nb 4294967296 (xs.drop (s+j)):=Nat.mul_le_mul_left _ (by omega)
 rw [Nat.mul_add] at h7
 have h8:nb 4294967296 es≤4294967296^j*nb 4294967296 (xs.drop (s+j)):=by omega
 have h9:nb 4294967296 es*4294967296^s≤4294967296^j*nb 4294967296 (xs.drop (s+j))*4294967296^s:=Nat.mul_le_mul_right _ h8
 have e:4294967296^j*nb 4294967296 (xs.drop (s+j))*4294967296^s=4294967296^(s+j)*nb 4294967296 (xs.drop (s+j)):=by
  rw [Nat.pow_add,Nat.mul_right_comm,Nat.mul_comm (4294967296^j)]
 omega
theorem goes_eq (h:nb 4294967296 (xs.drop (s+0))=nb 4294967296 (es.drop 0)):nb 4294967296 es*4294967296^s≤nb 4294967296 xs:=by
 have h4:=nb_split 4294967296 xs s (by omega)
 rw [Nat.add_zero,List.drop_zero] at h
 rw [h4,h,Nat.mul_comm]
 exact Nat.le_add_left _ _
theorem goes_step {j:Nat}(hj:j<m) (h:nb 4294967296 (xs.drop (s+(j+1)))=nb 4294967296 (es.drop (j+1))) (hd:xs.getD (s+j) 0=es.getD j 0):nb 4294967296 (xs.drop (s+j))=nb 4294967296 (es.drop j):=by
 rw [drop_getD3 (xs:=xs) (k:=s+j) (by omega),drop_getD3 (xs:=es) (k:=j) (by omega),Nat.add_assoc,h,hd]
end
set_option maxHeartbeats 4000000 in
theorem ref3_goes {w:World}{A D:Option Addr}{n cap m cd s:Nat}{xs es:List Nat}(hx:Rd w A n cap xs) (hln:n≤1099511627776) (hy:Rd w D m cd es) (hwx:Wfb 4294967296 xs) (hwe:Wfb 4294967296 es) (hs:s+m≤n) (hbig:nb 4294967296 xs<4294967296^(s+m+1)):
    Calls Tryz.prog 121 #[.slice A n cap,.slice D m cd,.int .i64 ((s:Nat):Int)] w (Gv w (Is (.bool (decide (nb 4294967296 es*4294967296^s≤nb 4294967296 xs))))):=by
 have hlen:=hx.len
 have hle:=hx.rv.le
 have hle2:=hy.len
 refine sx_enter Tryz.func121 rfl (n:=53) rfl (bq rfl) (args:= [.slice A n cap,.slice D m cd,.int .i64 ((s:Nat):Int)]) (cw_keep [(0,.slice A n cap),(1,.slice D m cd),(2,.int .i64 ((s:Nat):Int))] ⟨rfl,rfl,rfl,trivial⟩ (sr (mv 1 rfl (ne_ (sr (mv 2 rfl (pu (v:= .int .i64 ((m:Nat):Int)) rfl (by kernel_rfl) (wl_ar rfl rfl rfl ((s+m:Nat):Int) (ai_add (a:=s) (b:=m) rfl rfl (by omega)) (by decide) (mv 1 rfl (ne_ (cw_seq (cw_seq ?_))))))))))))
 by_cases htop:s+m<n
 · 
  by_cases hpos:xs.getD (s+m) 0>0
  · 
   refine cw_region (mv 2 rfl (pu (v:= .int .i64 ((n:Nat):Int)) rfl (by kernel_rfl) (wl_cmp rfl rfl rfl true (cb_lt_t (a:=s+m) (b:=n) rfl rfl (by omega)) (by decide) (mv 3 rfl ?_))))
   obtain⟨p1,hp1,hc1,hv1⟩:=(hx).at (i:=s+m) (by omega)
   refine wl_idx rfl rfl rfl un_u64 sz_u64 (s+m) rfl (by omega) p1 hp1 (by decide) (wl_load rfl rfl (load_cell1 ag_u64 hc1) (by decide) (wl_cmp rfl rfl rfl true (cb_gt_t (a:=xs.getD (s+m) 0) (b:=0) rfl rfl (by omega)) (by decide) (pu (v:= .bool true) rfl (by kernel_rfl) (ne_ (cw_true rfl (sr (mv 1 rfl (ne_ (cw_ret (eo_thenR (eo_ret [.bool true] rfl ⟨rfl,trivial⟩ ?_)))))))))))
   exact⟨_,rfl,(show Value.bool true=_ by rw [decide_eq_true (goes_top hlen hle2 hs hwx hwe htop hpos)]),(Ext.refl w)⟩
  · 
   have hst:=goes_start hlen hle2 hs hwx hwe hbig (fun _=>by omega)
   refine cw_region (mv 2 rfl (pu (v:= .int .i64 ((n:Nat):Int)) rfl (by kernel_rfl) (wl_cmp rfl rfl rfl true (cb_lt_t (a:=s+m) (b:=n) rfl rfl (by omega)) (by decide) (mv 3 rfl ?_))))
   obtain⟨p2,hp2,hc2,hv2⟩:=(hx).at (i:=s+m) (by omega)
   refine wl_idx rfl rfl rfl un_u64 sz_u64 (s+m) rfl (by omega) p2 hp2 (by decide) (wl_load rfl rfl (load_cell1 ag_u64 hc2) (by decide) (wl_cmp rfl rfl rfl false (cb_gt_f (a:=xs.getD (s+m) 0) (b:=0) rfl rfl (by omega)) (by decide) (pu (v:= .bool false) rfl (by kernel_rfl) (ne_ (cw_false rfl (cw_skip (eo_then (cw_seq (sr (mv 1 rfl (pu (v:= .int .i64 ((m:Nat):Int)) rfl (by kernel_rfl) (wl_ar rfl rfl rfl (((m:Nat):Int)-1) (ar_i64s rfl (by omega) (by omega)) (by decide) (mv 1 rfl ?_)))))))))))))
   refine ne_ (cw_block ?_)
   refine cw_loop (T:=World×Nat×Int)
    (fun⟨wr,k,ii⟩=> [(0,.slice A n cap),(1,.slice D m cd),(2,.int .i64 ((s:Nat):Int)),(8,.int .i64 ii)])
    (fun⟨wr,k,ii⟩=>wr)
    (fun⟨wr,k,ii⟩=>(Ext w wr)∧(k≤m)∧(ii=(k:Int)-1)∧(nb 4294967296 (xs.drop (s+k))=nb 4294967296 (es.drop k))∧(Rd wr A n cap xs)∧(Rd wr D m cd es))
    (fun⟨wr,k,ii⟩=>k)
    (⟨w,m,_⟩:World×Nat×Int) ⟨(Ext.refl w),Nat.le_refl _,rfl,hst,hx,hy⟩ rfl ⟨rfl,rfl,rfl,rfl,trivial⟩ ?_
   rintro⟨wr,k,ii⟩ ⟨hw1,hk,hii,hv,rl0,rl1⟩
   refine cw_re [(0,.slice A n cap),(1,.slice D m cd),(2,.int .i64 ((s:Nat):Int)),(8,.int .i64 ii)] wr rfl ⟨rfl,rfl,rfl,rfl,trivial⟩ (cw_seq (cw_seq ?_))
   by_cases hkp:0<k
   · 
    obtain⟨j,rfl⟩:∃j,k=j+1:=⟨k-1,by omega⟩
    obtain rfl:ii=(j:Int):=by omega
    refine cw_region (mv 1 rfl (wl_cmp rfl rfl rfl true (cb_ge_t (a:=j) (b:=0) rfl rfl (by omega)) (by decide) (ne_ (cw_true rfl (cw_skip (eo_then (cw_seq (cw_block (cw_seq ?_)))))))))
    by_cases hne:xs.getD (s+j) 0≠es.getD j 0
    · 
     refine cw_keep [(0,.slice A n cap),(1,.slice D m cd),(2,.int .i64 ((s:Nat):Int)),(8,.int .i64 ((j:Nat):Int)),(27,.int .i64 ((j:Nat):Int)),(28,.bool true)] ⟨rfl,rfl,rfl,rfl,rfl,rfl,trivial⟩ ?_
     obtain⟨v3,hv,e4⟩:∃v,v=wr.drew∧Ext wr v:=⟨_,rfl,(Ext.refl _).drew⟩
     have hw2:=hw1.trans e4
     obtain⟨p5,hp5,hc5,hv5⟩:=((rl0.ext e4)).at (i:=s+j) (by omega)
     obtain⟨p6,hp6,hc6,hv6⟩:=((rl1.ext e4)).at (i:=j) (by omega)
     refine cw_det mix (w:=v3) [.slice A n cap,.int .i64 ((s:Nat):Int),.int .i64 ((j:Nat):Int),.int .i64 ((s+j:Nat):Int),.pointer (some p5),.int .u64 ((xs.getD (s+j) 0:Nat):Int),.slice D m cd,.int .i64 ((j:Nat):Int),.pointer (some p6),.int .u64 ((es.getD j 0:Nat):Int),.bool true] [v3] [] [[],[],[],[1,2],[0,3],[4],[],[],[6,7],[8],[5,9]] [[],[],[],[1,2],[0,1,2,3],[0,1,2,3,4],[],[],[6,7],[6,7,8],[0,1,2,3,4,5,6,7,8,9]] [(0,0),(1,0),(2,0),(3,0),(4,0),(5,0),(6,0),(7,0),(8,0),(9,0),(10,0)] rfl hv ?_ ?_
     · 
      refine dobs_val _ rfl rfl rfl rfl rfl (rd_move rfl) (dobs_val _ rfl rfl rfl rfl rfl (rd_move rfl) (dobs_val _ rfl rfl rfl rfl rfl (rd_move rfl) (dobs_val _ rfl rfl rfl rfl rfl (rd_ar rfl rfl ((s+j:Nat):Int) (ai_add (a:=s) (b:=j) rfl rfl (by omega))) (dobs_val _ rfl rfl rfl rfl rfl (rd_idx rfl rfl un_u64 sz_u64 (s+j) rfl (by omega) p5 hp5) (dobs_val _ rfl rfl rfl rfl rfl (rd_load rfl (load_cell1 ag_u64 hc5)) (dobs_val _ rfl rfl rfl rfl rfl (rd_move rfl) (dobs_val _ rfl rfl rfl rfl rfl (rd_move rfl) (dobs_val _ rfl rfl rfl rfl rfl (rd_idx rfl rfl un_u64 sz_u64 j rfl (by omega) p6 hp6) (dobs_val _ rfl rfl rfl rfl rfl (rd_load rfl (load_cell1 ag_u64 hc6)) (dobs_val _ rfl rfl rfl rfl rfl (rd_cmp rfl rfl true (cb_ne_t (a:=xs.getD (s+j) 0) (b:=es.getD j 0) rfl rfl (by omega))) ?_))))))))))
      exact dobs_nil
     clear hv
     refine eo_keep [(0,.slice A n cap),(1,.slice D m cd),(2,.int .i64 ((s:Nat):Int)),(8,.int .i64 ((j:Nat):Int)),(27,.int .i64 ((j:Nat):Int)),(28,.bool true),(31,.slice A n cap),(32,.int .i64 ((s:Nat):Int)),(33,.int .i64 ((j:Nat):Int)),(34,.int .i64 ((s+j:Nat):Int)),(35,.pointer (some p5)),(36,.int .u64 ((xs.getD (s+j) 0:Nat):Int)),(37,.slice D m cd),(38,.int .i64 ((j:Nat):Int)),(39,.pointer (some p6)),(40,.int .u64 ((es.getD j 0:Nat):Int)),(41,.bool true)] ⟨rfl,rfl,rfl,rfl,rfl,rfl,rfl,rfl,rfl,rfl,rfl,rfl,rfl,rfl,rfl,rfl,rfl,trivial⟩ (eo_then (cw_true rfl (cw_seq ?_)))
     by_cases hgt:xs.getD (s+j) 0>es.getD j 0
     · 
      refine cw_keep [(0,.slice A n cap),(1,.slice D m cd),(2,.int .i64 ((s:Nat):Int)),(8,.int .i64 ((j:Nat):Int)),(27,.int .i64 ((j:Nat):Int)),(28,.bool true),(31,.slice A n cap),(32,.int .i64 ((s:Nat):Int)),(33,.int .i64 ((j:Nat):Int)),(34,.int .i64 ((s+j:Nat):Int)),(35,.pointer (some p5)),(36,.int .u64 ((xs.getD (s+j) 0:Nat):Int)),(37,.slice D m cd),(38,.int .i64 ((j:Nat):Int)),(39,.pointer (some p6)),(40,.int .u64 ((es.getD j 0:Nat):Int)),(41,.bool true)] ⟨rfl,rfl,rfl,rfl,rfl,rfl,rfl,rfl,rfl,rfl,rfl,rfl,rfl,rfl,rfl,rfl,rfl,trivial⟩ ?_
      obtain⟨v7,hv,e8⟩:∃v,v=v3.drew∧Ext v3 v:=⟨_,rfl,(Ext.refl _).drew⟩
      have hw3:=hw2.trans e8
      refine cw_det mix (w:=v7) [.slice A n cap,.int .i64 ((s:Nat):Int),.int .i64 ((j:Nat):Int),.int .i64 ((s+j:Nat):Int),.pointer (some p5),.int .u64 ((xs.getD (s+j) 0:Nat):Int),.slice D m cd,.int .i64 ((j:Nat):Int),.pointer (some p6),.int .u64 ((es.getD j 0:Nat):Int),.bool true,.bool true] [v7] [] [[],[],[],[1,2],[0,3],[4],[],[],[6,7],[8],[5,9],[10]] [[],[],[],[1,2],[0,1,2,3],[0,1,2,3,4],[],[],[6,7],[6,7,8],[0,1,2,3,4,5,6,7,8,9],[0,1,2,3,4,5,6,7,8,9,10]] [(0,0),(1,0),(2,0),(3,0),(4,0),(5,0),(6,0),(7,0),(8,0),(9,0),(10,0),(11,0)] rfl hv ?_ ?_
      · 
       refine dobs_val _ rfl rfl rfl rfl rfl (rd_move rfl) (dobs_val _ rfl rfl rfl rfl rfl (rd_move rfl) (dobs_val _ rfl rfl rfl rfl rfl (rd_move rfl) (dobs_val _ rfl rfl rfl rfl rfl (rd_ar rfl rfl ((s+j:Nat):Int) (ai_add (a:=s) (b:=j) rfl rfl (by omega))) (dobs_val _ rfl rfl rfl rfl rfl (rd_idx rfl rfl un_u64 sz_u64 (s+j) rfl (by omega) p5 hp5) (dobs_val _ rfl rfl rfl rfl rfl (rd_load rfl (load_cell1 ag_u64 (e8.cell hc5))) (dobs_val _ rfl rfl rfl rfl rfl (rd_move rfl) (dobs_val _ rfl rfl rfl rfl rfl (rd_move rfl) (dobs_val _ rfl rfl rfl rfl rfl (rd_idx rfl rfl un_u64 sz_u64 j rfl (by omega) p6 hp6) (dobs_val _ rfl rfl rfl rfl rfl (rd_load rfl (load_cell1 ag_u64 (e8.cell hc6))) (dobs_val _ rfl rfl rfl rfl rfl (rd_cmp rfl rfl true (cb_gt_t (a:=xs.getD (s+j) 0) (b:=es.getD j 0) rfl rfl (by omega))) (dobs_val _ rfl rfl rfl rfl rfl (rd_assign rfl) ?_)))))))))))
       exact dobs_nil
      clear hv
      refine eo_keep [(0,.slice A n cap),(1,.slice D m cd),(2,.int .i64 ((s:Nat):Int)),(8,.int .i64 ((j:Nat):Int)),(27,.int .i64 ((j:Nat):Int)),(28,.bool true),(31,.slice A n cap),(32,.int .i64 ((s:Nat):Int)),(33,.int .i64 ((j:Nat):Int)),(34,.int .i64 ((s+j:Nat):Int)),(35,.pointer (some p5)),(36,.int .u64 ((xs.getD (s+j) 0:Nat):Int)),(37,.slice D m cd),(38,.int .i64 ((j:Nat):Int)),(39,.pointer (some p6)),(40,.int .u64 ((es.getD j 0:Nat):Int)),(41,.bool true),(42,.slice A n cap),(43,.int .i64 ((s:Nat):Int)),(44,.int .i64 ((j:Nat):Int)),(45,.int .i64 ((s+j:Nat):Int)),(46,.pointer (some p5)),(47,.int .u64 ((xs.getD (s+j) 0:Nat):Int)),(48,.slice D m cd),(49,.int .i64 ((j:Nat):Int)),(50,.pointer (some p6)),(51,.int .u64 ((es.getD j 0:Nat):Int)),(52,.bool true),(6,.bool true)] ⟨rfl,rfl,rfl,rfl,rfl,rfl,rfl,rfl,rfl,rfl,rfl,rfl,rfl,rfl,rfl,rfl,rfl,rfl,rfl,rfl,rfl,rfl,rfl,rfl,rfl,rfl,rfl,rfl,rfl,trivial⟩ (eo_then (cw_ret (eo_block_ret (eo_thenR (eo_loopR (eo_block_ret (eo_thenR (eo_ret [.bool true] rfl ⟨rfl,trivial⟩ ?_))))))))
      exact⟨_,rfl,(show Value.bool true=_ by rw [decide_eq_true (goes_gt hlen hle2 hs hwx hwe (by omega) hv hgt)]),hw3⟩
     · 
      refine cw_keep [(0,.slice A n cap),(1,.slice D m cd),(2,.int .i64 ((s:Nat):Int)),(8,.int .i64 ((j:Nat):Int)),(27,.int .i64 ((j:Nat):Int)),(28,.bool true),(31,.slice A n cap),(32,.int .i64 ((s:Nat):Int)),(33,.int .i64 ((j:Nat):Int)),(34,.int .i64 ((s+j:Nat):Int)),(35,.pointer (some p5)),(36,.int .u64 ((xs.getD (s+j) 0:Nat):Int)),(37,.slice D m cd),(38,.int .i64 ((j:Nat):Int)),(39,.pointer (some p6)),(40,.int .u64 ((es.getD j 0:Nat):Int)),(41,.bool true)] ⟨rfl,rfl,rfl,rfl,rfl,rfl,rfl,rfl,rfl,rfl,rfl,rfl,rfl,rfl,rfl,rfl,rfl,trivial⟩ ?_
      obtain⟨v9,hv,e10⟩:∃v,v=v3.drew∧Ext v3 v:=⟨_,rfl,(Ext.refl _).drew⟩
      have hw3:=hw2.trans e10
      refine cw_det mix (w:=v9) [.slice A n cap,.int .i64 ((s:Nat):Int),.int .i64 ((j:Nat):Int),.int .i64 ((s+j:Nat):Int),.pointer (some p5),.int .u64 ((xs.getD (s+j) 0:Nat):Int),.slice D m cd,.int .i64 ((j:Nat):Int),.pointer (some p6),.int .u64 ((es.getD j 0:Nat):Int),F0,F0] [v9] [] [[],[],[],[1,2],[0,3],[4],[],[],[6,7],[8],[5,9],[10]] [[],[],[],[1,2],[0,1,2,3],[0,1,2,3,4],[],[],[6,7],[6,7,8],[0,1,2,3,4,5,6,7,8,9],[0,1,2,3,4,5,6,7,8,9,10]] [(0,0),(1,0),(2,0),(3,0),(4,0),(5,0),(6,0),(7,0),(8,0),(9,0),(10,0),(11,0)] rfl hv ?_ ?_
      · 
       refine dobs_val _ rfl rfl rfl rfl rfl (rd_move rfl) (dobs_val _ rfl rfl rfl rfl rfl (rd_move rfl) (dobs_val _ rfl rfl rfl rfl rfl (rd_move rfl) (dobs_val _ rfl rfl rfl rfl rfl (rd_ar rfl rfl ((s+j:Nat):Int) (ai_add (a:=s) (b:=j) rfl rfl (by omega))) (dobs_val _ rfl rfl rfl rfl rfl (rd_idx rfl rfl un_u64 sz_u64 (s+j) rfl (by omega) p5 hp5) (dobs_val _ rfl rfl rfl rfl rfl (rd_load rfl (load_cell1 ag_u64 (e10.cell hc5))) (dobs_val _ rfl rfl rfl rfl rfl (rd_move rfl) (dobs_val _ rfl rfl rfl rfl rfl (rd_move rfl) (dobs_val _ rfl rfl rfl rfl rfl (rd_idx rfl rfl un_u64 sz_u64 j rfl (by omega) p6 hp6) (dobs_val _ rfl rfl rfl rfl rfl (rd_load rfl (load_cell1 ag_u64 (e10.cell hc6))) (dobs_val _ rfl rfl rfl rfl rfl (rd_cmp rfl rfl false (cb_gt_f (a:=xs.getD (s+j) 0) (b:=es.getD j 0) rfl rfl (by omega))) (dobs_val _ rfl rfl rfl rfl rfl (rd_assign rfl) ?_)))))))))))
       exact dobs_nil
      clear hv
      refine eo_keep [(0,.slice A n cap),(1,.slice D m cd),(2,.int .i64 ((s:Nat):Int)),(8,.int .i64 ((j:Nat):Int)),(27,.int .i64 ((j:Nat):Int)),(28,.bool true),(31,.slice A n cap),(32,.int .i64 ((s:Nat):Int)),(33,.int .i64 ((j:Nat):Int)),(34,.int .i64 ((s+j:Nat):Int)),(35,.pointer (some p5)),(36,.int .u64 ((xs.getD (s+j) 0:Nat):Int)),(37,.slice D m cd),(38,.int .i64 ((j:Nat):Int)),(39,.pointer (some p6)),(40,.int .u64 ((es.getD j 0:Nat):Int)),(41,.bool true),(42,.slice A n cap),(43,.int .i64 ((s:Nat):Int)),(44,.int .i64 ((j:Nat):Int)),(45,.int .i64 ((s+j:Nat):Int)),(46,.pointer (some p5)),(47,.int .u64 ((xs.getD (s+j) 0:Nat):Int)),(48,.slice D m cd),(49,.int .i64 ((j:Nat):Int)),(50,.pointer (some p6)),(51,.int .u64 ((es.getD j 0:Nat):Int)),(52,.bool false),(6,.bool false)] ⟨rfl,rfl,rfl,rfl,rfl,rfl,rfl,rfl,rfl,rfl,rfl,rfl,rfl,rfl,rfl,rfl,rfl,rfl,rfl,rfl,rfl,rfl,rfl,rfl,rfl,rfl,rfl,rfl,rfl,trivial⟩ (eo_then (cw_ret (eo_block_ret (eo_thenR (eo_loopR (eo_block_ret (eo_thenR (eo_ret [F0] rfl ⟨rfl,trivial⟩ ?_))))))))
      exact⟨_,rfl,(show Value.bool false=_ by rw [decide_eq_false (goes_lt hlen hle2 hs hwx hwe (by omega) hv (by omega))]),hw3⟩
    · 
     refine cw_keep [(0,.slice A n cap),(1,.slice D m cd),(2,.int .i64 ((s:Nat):Int)),(8,.int .i64 ((j:Nat):Int)),(27,.int .i64 ((j:Nat):Int)),(28,.bool true)] ⟨rfl,rfl,rfl,rfl,rfl,rfl,trivial⟩ ?_
     obtain⟨v11,hv,e12⟩:∃v,v=wr.drew∧Ext wr v:=⟨_,rfl,(Ext.refl _).drew⟩
     have hw2:=hw1.trans e12
     obtain⟨p13,hp13,hc13,hv13⟩:=((rl0.ext e12)).at (i:=s+j) (by omega)
     obtain⟨p14,hp14,hc14,hv14⟩:=((rl1.ext e12)).at (i:=j) (by omega)
     refine cw_det mix (w:=v11) [.slice A n cap,.int .i64 ((s:Nat):Int),.int .i64 ((j:Nat):Int),.int .i64 ((s+j:Nat):Int),.pointer (some p13),.int .u64 ((xs.getD (s+j) 0:Nat):Int),.slice D m cd,.int .i64 ((j:Nat):Int),.pointer (some p14),.int .u64 ((es.getD j 0:Nat):Int),F0] [v11] [] [[],[],[],[1,2],[0,3],[4],[],[],[6,7],[8],[5,9]] [[],[],[],[1,2],[0,1,2,3],[0,1,2,3,4],[],[],[6,7],[6,7,8],[0,1,2,3,4,5,6,7,8,9]] [(0,0),(1,0),(2,0),(3,0),(4,0),(5,0),(6,0),(7,0),(8,0),(9,0),(10,0)] rfl hv ?_ ?_
     · 
      refine dobs_val _ rfl rfl rfl rfl rfl (rd_move rfl) (dobs_val _ rfl rfl rfl rfl rfl (rd_move rfl) (dobs_val _ rfl rfl rfl rfl rfl (rd_move rfl) (dobs_val _ rfl rfl rfl rfl rfl (rd_ar rfl rfl ((s+j:Nat):Int) (ai_add (a:=s) (b:=j) rfl rfl (by omega))) (dobs_val _ rfl rfl rfl rfl rfl (rd_idx rfl rfl un_u64 sz_u64 (s+j) rfl (by omega) p13 hp13) (dobs_val _ rfl rfl rfl rfl rfl (rd_load rfl (load_cell1 ag_u64 hc13)) (dobs_val _ rfl rfl rfl rfl rfl (rd_move rfl) (dobs_val _ rfl rfl rfl rfl rfl (rd_move rfl) (dobs_val _ rfl rfl rfl rfl rfl (rd_idx rfl rfl un_u64 sz_u64 j rfl (by omega) p14 hp14) (dobs_val _ rfl rfl rfl rfl rfl (rd_load rfl (load_cell1 ag_u64 hc14)) (dobs_val _ rfl rfl rfl rfl rfl (rd_cmp rfl rfl false (cb_ne_f (a:=xs.getD (s+j) 0) (b:=es.getD j 0) rfl rfl (by omega))) ?_))))))))))
      exact dobs_nil
     clear hv
     refine eo_keep [(0,.slice A n cap),(1,.slice D m cd),(2,.int .i64 ((s:Nat):Int)),(8,.int .i64 ((j:Nat):Int)),(27,.int .i64 ((j:Nat):Int)),(28,.bool true),(31,.slice A n cap),(32,.int .i64 ((s:Nat):Int)),(33,.int .i64 ((j:Nat):Int)),(34,.int .i64 ((s+j:Nat):Int)),(35,.pointer (some p13)),(36,.int .u64 ((xs.getD (s+j) 0:Nat):Int)),(37,.slice D m cd),(38,.int .i64 ((j:Nat):Int)),(39,.pointer (some p14)),(40,.int .u64 ((es.getD j 0:Nat):Int)),(41,.bool false)] ⟨rfl,rfl,rfl,rfl,rfl,rfl,rfl,rfl,rfl,rfl,rfl,rfl,rfl,rfl,rfl,rfl,rfl,trivial⟩ (eo_then (cw_false rfl (cw_skip (eo_block_normal (eo_then (cw_region (mv 1 rfl (wl_ar rfl rfl rfl (((j:Nat):Int)-1) (ar_i64s rfl (by omega) (by omega)) (by decide) (mv 1 rfl (wl_nil (eo_round (⟨v11,j,_⟩:World×Nat×Int) ⟨hw2,(by omega),rfl,goes_step hlen hle2 hs hwx hwe (by omega) hv (by omega),(rl0.ext e12),(rl1.ext e12)⟩ (show j<j+1 by omega) rfl ⟨rfl,rfl,rfl,rfl,trivial⟩)))))))))))
   · 
    obtain rfl:k=0:=by omega
    refine cw_region (mv 1 rfl (wl_cmp rfl rfl rfl false (ge_f (by omega)) (by decide) (ne_ (cw_false rfl (cw_exit (eo_thenX (eo_loopX (eo_block_here (eo_then (sr (mv 1 rfl (ne_ (cw_ret ?_)))))))))))))
    refine eo_ret [.bool true] rfl ⟨rfl,trivial⟩ ?_
    exact⟨_,rfl,(show Value.bool true=_ by rw [decide_eq_true (goes_eq hlen hle2 hs hwx hwe hv)]),hw1⟩
 · 
  have hst:=goes_start hlen hle2 hs hwx hwe hbig (fun h=>absurd h htop)
  refine cw_region (mv 2 rfl (pu (v:= .int .i64 ((n:Nat):Int)) rfl (by kernel_rfl) (wl_cmp rfl rfl rfl false (cb_lt_f (a:=s+m) (b:=n) rfl rfl (by omega)) (by decide) (mv 6 rfl (pu (v:= .bool false) rfl (by kernel_rfl) (ne_ (cw_false rfl (cw_skip (eo_then (cw_seq (sr (mv 1 rfl (pu (v:= .int .i64 ((m:Nat):Int)) rfl (by kernel_rfl) ?_)))))))))))))
  refine wl_ar rfl rfl rfl (((m:Nat):Int)-1) (ar_i64s rfl (by omega) (by omega)) (by decide) (mv 1 rfl (ne_ (cw_block ?_)))
  refine cw_loop (T:=World×Nat×Int)
   (fun⟨wr,k,ii⟩=> [(0,.slice A n cap),(1,.slice D m cd),(2,.int .i64 ((s:Nat):Int)),(8,.int .i64 ii)])
   (fun⟨wr,k,ii⟩=>wr)
   (fun⟨wr,k,ii⟩=>(Ext w wr)∧(k≤m)∧(ii=(k:Int)-1)∧(nb 4294967296 (xs.drop (s+k))=nb 4294967296 (es.drop k))∧(Rd wr A n cap xs)∧(Rd wr D m cd es))
   (fun⟨wr,k,ii⟩=>k)
   (⟨w,m,_⟩:World×Nat×Int) ⟨(Ext.refl w),Nat.le_refl _,rfl,hst,hx,hy⟩ rfl ⟨rfl,rfl,rfl,rfl,trivial⟩ ?_
  rintro⟨wr,k,ii⟩ ⟨hw1,hk,hii,hv,rl0,rl1⟩
  refine cw_re [(0,.slice A n cap),(1,.slice D m cd),(2,.int .i64 ((s:Nat):Int)),(8,.int .i64 ii)] wr rfl ⟨rfl,rfl,rfl,rfl,trivial⟩ (cw_seq (cw_seq ?_))
  by_cases hkp:0<k
  · 
   obtain⟨j,rfl⟩:∃j,k=j+1:=⟨k-1,by omega⟩
   obtain rfl:ii=(j:Int):=by omega
   refine cw_region (mv 1 rfl (wl_cmp rfl rfl rfl true (cb_ge_t (a:=j) (b:=0) rfl rfl (by omega)) (by decide) (ne_ (cw_true rfl (cw_skip (eo_then (cw_seq (cw_block (cw_seq ?_)))))))))
   by_cases hne:xs.getD (s+j) 0≠es.getD j 0
   · 
    refine cw_keep [(0,.slice A n cap),(1,.slice D m cd),(2,.int .i64 ((s:Nat):Int)),(8,.int .i64 ((j:Nat):Int)),(27,.int .i64 ((j:Nat):Int)),(28,.bool true)] ⟨rfl,rfl,rfl,rfl,rfl,rfl,trivial⟩ ?_
    obtain⟨v15,hv,e16⟩:∃v,v=wr.drew∧Ext wr v:=⟨_,rfl,(Ext.refl _).drew⟩
    have hw2:=hw1.trans e16
    obtain⟨p17,hp17,hc17,hv17⟩:=((rl0.ext e16)).at (i:=s+j) (by omega)
    obtain⟨p18,hp18,hc18,hv18⟩:=((rl1.ext e16)).at (i:=j) (by omega)
    refine cw_det mix (w:=v15) [.slice A n cap,.int .i64 ((s:Nat):Int),.int .i64 ((j:Nat):Int),.int .i64 ((s+j:Nat):Int),.pointer (some p17),.int .u64 ((xs.getD (s+j) 0:Nat):Int),.slice D m cd,.int .i64 ((j:Nat):Int),.pointer (some p18),.int .u64 ((es.getD j 0:Nat):Int),.bool true] [v15] [] [[],[],[],[1,2],[0,3],[4],[],[],[6,7],[8],[5,9]] [[],[],[],[1,2],[0,1,2,3],[0,1,2,3,4],[],[],[6,7],[6,7,8],[0,1,2,3,4,5,6,7,8,9]] [(0,0),(1,0),(2,0),(3,0),(4,0),(5,0),(6,0),(7,0),(8,0),(9,0),(10,0)] rfl hv ?_ ?_
    · 
     refine dobs_val _ rfl rfl rfl rfl rfl (rd_move rfl) (dobs_val _ rfl rfl rfl rfl rfl (rd_move rfl) (dobs_val _ rfl rfl rfl rfl rfl (rd_move rfl) (dobs_val _ rfl rfl rfl rfl rfl (rd_ar rfl rfl ((s+j:Nat):Int) (ai_add (a:=s) (b:=j) rfl rfl (by omega))) (dobs_val _ rfl rfl rfl rfl rfl (rd_idx rfl rfl un_u64 sz_u64 (s+j) rfl (by omega) p17 hp17) (dobs_val _ rfl rfl rfl rfl rfl (rd_load rfl (load_cell1 ag_u64 hc17)) (dobs_val _ rfl rfl rfl rfl rfl (rd_move rfl) (dobs_val _ rfl rfl rfl rfl rfl (rd_move rfl) (dobs_val _ rfl rfl rfl rfl rfl (rd_idx rfl rfl un_u64 sz_u64 j rfl (by omega) p18 hp18) (dobs_val _ rfl rfl rfl rfl rfl (rd_load rfl (load_cell1 ag_u64 hc18)) (dobs_val _ rfl rfl rfl rfl rfl (rd_cmp rfl rfl true (cb_ne_t (a:=xs.getD (s+j) 0) (b:=es.getD j 0) rfl rfl (by omega))) ?_))))))))))
     exact dobs_nil
    clear hv
    refine eo_keep [(0,.slice A n cap),(1,.slice D m cd),(2,.int .i64 ((s:Nat):Int)),(8,.int .i64 ((j:Nat):Int)),(27,.int .i64 ((j:Nat):Int)),(28,.bool true),(31,.slice A n cap),(32,.int .i64 ((s:Nat):Int)),(33,.int .i64 ((j:Nat):Int)),(34,.int .i64 ((s+j:Nat):Int)),(35,.pointer (some p17)),(36,.int .u64 ((xs.getD (s+j) 0:Nat):Int)),(37,.slice D m cd),(38,.int .i64 ((j:Nat):Int)),(39,.pointer (some p18)),(40,.int .u64 ((es.getD j 0:Nat):Int)),(41,.bool true)] ⟨rfl,rfl,rfl,rfl,rfl,rfl,rfl,rfl,rfl,rfl,rfl,rfl,rfl,rfl,rfl,rfl,rfl,trivial⟩ (eo_then (cw_true rfl (cw_seq ?_)))
    by_cases hgt:xs.getD (s+j) 0>es.getD j 0
    · 
     refine cw_keep [(0,.slice A n cap),(1,.slice D m cd),(2,.int .i64 ((s:Nat):Int)),(8,.int .i64 ((j:Nat):Int)),(27,.int .i64 ((j:Nat):Int)),(28,.bool true),(31,.slice A n cap),(32,.int .i64 ((s:Nat):Int)),(33,.int .i64 ((j:Nat):Int)),(34,.int .i64 ((s+j:Nat):Int)),(35,.pointer (some p17)),(36,.int .u64 ((xs.getD (s+j) 0:Nat):Int)),(37,.slice D m cd),(38,.int .i64 ((j:Nat):Int)),(39,.pointer (some p18)),(40,.int .u64 ((es.getD j 0:Nat):Int)),(41,.bool true)] ⟨rfl,rfl,rfl,rfl,rfl,rfl,rfl,rfl,rfl,rfl,rfl,rfl,rfl,rfl,rfl,rfl,rfl,trivial⟩ ?_
     obtain⟨v19,hv,e20⟩:∃v,v=v15.drew∧Ext v15 v:=⟨_,rfl,(Ext.refl _).drew⟩
     have hw3:=hw2.trans e20
     refine cw_det mix (w:=v19) [.slice A n cap,.int .i64 ((s:Nat):Int),.int .i64 ((j:Nat):Int),.int .i64 ((s+j:Nat):Int),.pointer (some p17),.int .u64 ((xs.getD (s+j) 0:Nat):Int),.slice D m cd,.int .i64 ((j:Nat):Int),.pointer (some p18),.int .u64 ((es.getD j 0:Nat):Int),.bool true,.bool true] [v19] [] [[],[],[],[1,2],[0,3],[4],[],[],[6,7],[8],[5,9],[10]] [[],[],[],[1,2],[0,1,2,3],[0,1,2,3,4],[],[],[6,7],[6,7,8],[0,1,2,3,4,5,6,7,8,9],[0,1,2,3,4,5,6,7,8,9,10]] [(0,0),(1,0),(2,0),(3,0),(4,0),(5,0),(6,0),(7,0),(8,0),(9,0),(10,0),(11,0)] rfl hv ?_ ?_
     · 
      refine dobs_val _ rfl rfl rfl rfl rfl (rd_move rfl) (dobs_val _ rfl rfl rfl rfl rfl (rd_move rfl) (dobs_val _ rfl rfl rfl rfl rfl (rd_move rfl) (dobs_val _ rfl rfl rfl rfl rfl (rd_ar rfl rfl ((s+j:Nat):Int) (ai_add (a:=s) (b:=j) rfl rfl (by omega))) (dobs_val _ rfl rfl rfl rfl rfl (rd_idx rfl rfl un_u64 sz_u64 (s+j) rfl (by omega) p17 hp17) (dobs_val _ rfl rfl rfl rfl rfl (rd_load rfl (load_cell1 ag_u64 (e20.cell hc17))) (dobs_val _ rfl rfl rfl rfl rfl (rd_move rfl) (dobs_val _ rfl rfl rfl rfl rfl (rd_move rfl) (dobs_val _ rfl rfl rfl rfl rfl (rd_idx rfl rfl un_u64 sz_u64 j rfl (by omega) p18 hp18) (dobs_val _ rfl rfl rfl rfl rfl (rd_load rfl (load_cell1 ag_u64 (e20.cell hc18))) (dobs_val _ rfl rfl rfl rfl rfl (rd_cmp rfl rfl true (cb_gt_t (a:=xs.getD (s+j) 0) (b:=es.getD j 0) rfl rfl (by omega))) (dobs_val _ rfl rfl rfl rfl rfl (rd_assign rfl) ?_)))))))))))
      exact dobs_nil
     clear hv
     refine eo_keep [(0,.slice A n cap),(1,.slice D m cd),(2,.int .i64 ((s:Nat):Int)),(8,.int .i64 ((j:Nat):Int)),(27,.int .i64 ((j:Nat):Int)),(28,.bool true),(31,.slice A n cap),(32,.int .i64 ((s:Nat):Int)),(33,.int .i64 ((j:Nat):Int)),(34,.int .i64 ((s+j:Nat):Int)),(35,.pointer (some p17)),(36,.int .u64 ((xs.getD (s+j) 0:Nat):Int)),(37,.slice D m cd),(38,.int .i64 ((j:Nat):Int)),(39,.pointer (some p18)),(40,.int .u64 ((es.getD j 0:Nat):Int)),(41,.bool true),(42,.slice A n cap),(43,.int .i64 ((s:Nat):Int)),(44,.int .i64 ((j:Nat):Int)),(45,.int .i64 ((s+j:Nat):Int)),(46,.pointer (some p17)),(47,.int .u64 ((xs.getD (s+j) 0:Nat):Int)),(48,.slice D m cd),(49,.int .i64 ((j:Nat):Int)),(50,.pointer (some p18)),(51,.int .u64 ((es.getD j 0:Nat):Int)),(52,.bool true),(6,.bool true)] ⟨rfl,rfl,rfl,rfl,rfl,rfl,rfl,rfl,rfl,rfl,rfl,rfl,rfl,rfl,rfl,rfl,rfl,rfl,rfl,rfl,rfl,rfl,rfl,rfl,rfl,rfl,rfl,rfl,rfl,trivial⟩ (eo_then (cw_ret (eo_block_ret (eo_thenR (eo_loopR (eo_block_ret (eo_thenR (eo_ret [.bool true] rfl ⟨rfl,trivial⟩ ?_))))))))
     exact⟨_,rfl,(show Value.bool true=_ by rw [decide_eq_true (goes_gt hlen hle2 hs hwx hwe (by omega) hv hgt)]),hw3⟩
    · 
     refine cw_keep [(0,.slice A n cap),(1,.slice D m cd),(2,.int .i64 ((s:Nat):Int)),(8,.int .i64 ((j:Nat):Int)),(27,.int .i64 ((j:Nat):Int)),(28,.bool true),(31,.slice A n cap),(32,.int .i64 ((s:Nat):Int)),(33,.int .i64 ((j:Nat):Int)),(34,.int .i64 ((s+j:Nat):Int)),(35,.pointer (some p17)),(36,.int .u64 ((xs.getD (s+j) 0:Nat):Int)),(37,.slice D m cd),(38,.int .i64 ((j:Nat):Int)),(39,.pointer (some p18)),(40,.int .u64 ((es.getD j 0:Nat):Int)),(41,.bool true)] ⟨rfl,rfl,rfl,rfl,rfl,rfl,rfl,rfl,rfl,rfl,rfl,rfl,rfl,rfl,rfl,rfl,rfl,trivial⟩ ?_
     obtain⟨v21,hv,e22⟩:∃v,v=v15.drew∧Ext v15 v:=⟨_,rfl,(Ext.refl _).drew⟩
     have hw3:=hw2.trans e22
     refine cw_det mix (w:=v21) [.slice A n cap,.int .i64 ((s:Nat):Int),.int .i64 ((j:Nat):Int),.int .i64 ((s+j:Nat):Int),.pointer (some p17),.int .u64 ((xs.getD (s+j) 0:Nat):Int),.slice D m cd,.int .i64 ((j:Nat):Int),.pointer (some p18),.int .u64 ((es.getD j 0:Nat):Int),F0,F0] [v21] [] [[],[],[],[1,2],[0,3],[4],[],[],[6,7],[8],[5,9],[10]] [[],[],[],[1,2],[0,1,2,3],[0,1,2,3,4],[],[],[6,7],[6,7,8],[0,1,2,3,4,5,6,7,8,9],[0,1,2,3,4,5,6,7,8,9,10]] [(0,0),(1,0),(2,0),(3,0),(4,0),(5,0),(6,0),(7,0),(8,0),(9,0),(10,0),(11,0)] rfl hv ?_ ?_
     · 
      refine dobs_val _ rfl rfl rfl rfl rfl (rd_move rfl) (dobs_val _ rfl rfl rfl rfl rfl (rd_move rfl) (dobs_val _ rfl rfl rfl rfl rfl (rd_move rfl) (dobs_val _ rfl rfl rfl rfl rfl (rd_ar rfl rfl ((s+j:Nat):Int) (ai_add (a:=s) (b:=j) rfl rfl (by omega))) (dobs_val _ rfl rfl rfl rfl rfl (rd_idx rfl rfl un_u64 sz_u64 (s+j) rfl (by omega) p17 hp17) (dobs_val _ rfl rfl rfl rfl rfl (rd_load rfl (load_cell1 ag_u64 (e22.cell hc17))) (dobs_val _ rfl rfl rfl rfl rfl (rd_move rfl) (dobs_val _ rfl rfl rfl rfl rfl (rd_move rfl) (dobs_val _ rfl rfl rfl rfl rfl (rd_idx rfl rfl un_u64 sz_u64 j rfl (by omega) p18 hp18) (dobs_val _ rfl rfl rfl rfl rfl (rd_load rfl (load_cell1 ag_u64 (e22.cell hc18))) (dobs_val _ rfl rfl rfl rfl rfl (rd_cmp rfl rfl false (cb_gt_f (a:=xs.getD (s+j) 0) (b:=es.getD j 0) rfl rfl (by omega))) (dobs_val _ rfl rfl rfl rfl rfl (rd_assign rfl) ?_)))))))))))
      exact dobs_nil
     clear hv
     refine eo_keep [(0,.slice A n cap),(1,.slice D m cd),(2,.int .i64 ((s:Nat):Int)),(8,.int .i64 ((j:Nat):Int)),(27,.int .i64 ((j:Nat):Int)),(28,.bool true),(31,.slice A n cap),(32,.int .i64 ((s:Nat):Int)),(33,.int .i64 ((j:Nat):Int)),(34,.int .i64 ((s+j:Nat):Int)),(35,.pointer (some p17)),(36,.int .u64 ((xs.getD (s+j) 0:Nat):Int)),(37,.slice D m cd),(38,.int .i64 ((j:Nat):Int)),(39,.pointer (some p18)),(40,.int .u64 ((es.getD j 0:Nat):Int)),(41,.bool true),(42,.slice A n cap),(43,.int .i64 ((s:Nat):Int)),(44,.int .i64 ((j:Nat):Int)),(45,.int .i64 ((s+j:Nat):Int)),(46,.pointer (some p17)),(47,.int .u64 ((xs.getD (s+j) 0:Nat):Int)),(48,.slice D m cd),(49,.int .i64 ((j:Nat):Int)),(50,.pointer (some p18)),(51,.int .u64 ((es.getD j 0:Nat):Int)),(52,.bool false),(6,.bool false)] ⟨rfl,rfl,rfl,rfl,rfl,rfl,rfl,rfl,rfl,rfl,rfl,rfl,rfl,rfl,rfl,rfl,rfl,rfl,rfl,rfl,rfl,rfl,rfl,rfl,rfl,rfl,rfl,rfl,rfl,trivial⟩ (eo_then (cw_ret (eo_block_ret (eo_thenR (eo_loopR (eo_block_ret (eo_thenR (eo_ret [F0] rfl ⟨rfl,trivial⟩ ?_))))))))
     exact⟨_,rfl,(show Value.bool false=_ by rw [decide_eq_false (goes_lt hlen hle2 hs hwx hwe (by omega) hv (by omega))]),hw3⟩
   · 
    refine cw_keep [(0,.slice A n cap),(1,.slice D m cd),(2,.int .i64 ((s:Nat):Int)),(8,.int .i64 ((j:Nat):Int)),(27,.int .i64 ((j:Nat):Int)),(28,.bool true)] ⟨rfl,rfl,rfl,rfl,rfl,rfl,trivial⟩ ?_
    obtain⟨v23,hv,e24⟩:∃v,v=wr.drew∧Ext wr v:=⟨_,rfl,(Ext.refl _).drew⟩
    have hw2:=hw1.trans e24
    obtain⟨p25,hp25,hc25,hv25⟩:=((rl0.ext e24)).at (i:=s+j) (by omega)
    obtain⟨p26,hp26,hc26,hv26⟩:=((rl1.ext e24)).at (i:=j) (by omega)
    refine cw_det mix (w:=v23) [.slice A n cap,.int .i64 ((s:Nat):Int),.int .i64 ((j:Nat):Int),.int .i64 ((s+j:Nat):Int),.pointer (some p25),.int .u64 ((xs.getD (s+j) 0:Nat):Int),.slice D m cd,.int .i64 ((j:Nat):Int),.pointer (some p26),.int .u64 ((es.getD j 0:Nat):Int),F0] [v23] [] [[],[],[],[1,2],[0,3],[4],[],[],[6,7],[8],[5,9]] [[],[],[],[1,2],[0,1,2,3],[0,1,2,3,4],[],[],[6,7],[6,7,8],[0,1,2,3,4,5,6,7,8,9]] [(0,0),(1,0),(2,0),(3,0),(4,0),(5,0),(6,0),(7,0),(8,0),(9,0),(10,0)] rfl hv ?_ ?_
    · 
     refine dobs_val _ rfl rfl rfl rfl rfl (rd_move rfl) (dobs_val _ rfl rfl rfl rfl rfl (rd_move rfl) (dobs_val _ rfl rfl rfl rfl rfl (rd_move rfl) (dobs_val _ rfl rfl rfl rfl rfl (rd_ar rfl rfl ((s+j:Nat):Int) (ai_add (a:=s) (b:=j) rfl rfl (by omega))) (dobs_val _ rfl rfl rfl rfl rfl (rd_idx rfl rfl un_u64 sz_u64 (s+j) rfl (by omega) p25 hp25) (dobs_val _ rfl rfl rfl rfl rfl (rd_load rfl (load_cell1 ag_u64 hc25)) (dobs_val _ rfl rfl rfl rfl rfl (rd_move rfl) (dobs_val _ rfl rfl rfl rfl rfl (rd_move rfl) (dobs_val _ rfl rfl rfl rfl rfl (rd_idx rfl rfl un_u64 sz_u64 j rfl (by omega) p26 hp26) (dobs_val _ rfl rfl rfl rfl rfl (rd_load rfl (load_cell1 ag_u64 hc26)) (dobs_val _ rfl rfl rfl rfl rfl (rd_cmp rfl rfl false (cb_ne_f (a:=xs.getD (s+j) 0) (b:=es.getD j 0) rfl rfl (by omega))) ?_))))))))))
     exact dobs_nil
    clear hv
    refine eo_keep [(0,.slice A n cap),(1,.slice D m cd),(2,.int .i64 ((s:Nat):Int)),(8,.int .i64 ((j:Nat):Int)),(27,.int .i64 ((j:Nat):Int)),(28,.bool true),(31,.slice A n cap),(32,.int .i64 ((s:Nat):Int)),(33,.int .i64 ((j:Nat):Int)),(34,.int .i64 ((s+j:Nat):Int)),(35,.pointer (some p25)),(36,.int .u64 ((xs.getD (s+j) 0:Nat):Int)),(37,.slice D m cd),(38,.int .i64 ((j:Nat):Int)),(39,.pointer (some p26)),(40,.int .u64 ((es.getD j 0:Nat):Int)),(41,.bool false)] ⟨rfl,rfl,rfl,rfl,rfl,rfl,rfl,rfl,rfl,rfl,rfl,rfl,rfl,rfl,rfl,rfl,rfl,trivial⟩ (eo_then (cw_false rfl (cw_skip (eo_block_normal (eo_then (cw_region (mv 1 rfl (wl_ar rfl rfl rfl (((j:Nat):Int)-1) (ar_i64s rfl (by omega) (by omega)) (by decide) (mv 1 rfl (wl_nil (eo_round (⟨v23,j,_⟩:World×Nat×Int) ⟨hw2,(by omega),rfl,goes_step hlen hle2 hs hwx hwe (by omega) hv (by omega),(rl0.ext e24),(rl1.ext e24)⟩ (show j<j+1 by omega) rfl ⟨rfl,rfl,rfl,rfl,trivial⟩)))))))))))
  · 
   obtain rfl:k=0:=by omega
   refine cw_region (mv 1 rfl (wl_cmp rfl rfl rfl false (ge_f (by omega)) (by decide) (ne_ (cw_false rfl (cw_exit (eo_thenX (eo_loopX (eo_block_here (eo_then (sr (mv 1 rfl (ne_ (cw_ret ?_)))))))))))))
   refine eo_ret [.bool true] rfl ⟨rfl,trivial⟩ ?_
   exact⟨_,rfl,(show Value.bool true=_ by rw [decide_eq_true (goes_eq hlen hle2 hs hwx hwe hv)]),hw1⟩
theorem nb_digit_le {b:Nat}{l:List Nat}{i:Nat}(hi:i<l.length):l.getD i 0*b^i≤nb b l:=by
 rw [nb_split b l i (by omega),drop_getD3 hi,Nat.mul_add,Nat.mul_comm (l.getD i 0)]
 omega
theorem divmod_of3 {x y q r:Nat}(h:q*y+r=x) (hr:r<y):q=x/y∧r=x%y:=by
 subst h
 rw [Nat.mul_comm]
 constructor
 ·rw [Nat.mul_add_div (by omega),Nat.div_eq_of_lt hr];rfl
 ·rw [Nat.mul_add_mod,Nat.mod_eq_of_lt hr]
theorem nb_ge_of_top {b m:Nat}{es:List Nat}(hb:0<b) (hm:0<m) (hl:es.length=m) (ht:es.getD (m-1) 0≠0):b^(m-1)≤nb b es:=by
 refine Nat.le_trans ?_ (nb_digit_le (b:=b) (l:=es) (i:=m-1) (by omega))
 exact Nat.le_mul_of_pos_left _ (by omega)
theorem nb_pos_of_top {b m:Nat}{es:List Nat}(hb:0<b) (hm:0<m) (hl:es.length=m) (ht:es.getD (m-1) 0≠0):0<nb b es:=Nat.lt_of_lt_of_le (Nat.pow_pos hb) (nb_ge_of_top hb hm hl ht)
theorem small_of_top {n m:Nat}{xs es:List Nat}(hw:Wfb 4294967296 xs) (hn:xs.length=n) (hl:es.length=m) (h:n<m) (ht:es.getD (m-1) 0≠0):nb 4294967296 xs<nb 4294967296 es:=by
 have h1:=nb_lt hw
 rw [hn] at h1
 have h2:=nb_ge_of_top (b:=4294967296) (by decide) (by omega) hl ht
 have h3:4294967296^n≤4294967296^(m-1):=Nat.pow_le_pow_right (by decide) (by omega)
 omega
theorem ref3_goes' {w:World}{A D:Option Addr}{n cap m cd s:Nat}{xs es:List Nat}{b:Bool}(hx:Rd w A n cap xs) (hln:n≤1099511627776) (hy:Rd w D m cd es) (hwx:Wfb 4294967296 xs) (hwe:Wfb 4294967296 es) (hs:s+m≤n) (hbig:nb 4294967296 xs<4294967296^(s+m+1)) (hb:decide (nb 4294967296 es*4294967296^s≤nb 4294967296 xs)=b):
  Calls Tryz.prog 121 #[.slice A n cap,.slice D m cd,.int .i64 (s:Int)] w (Gv w (Is (.bool b))):=hb▸ref3_goes hx hln hy hwx hwe hs hbig
theorem nb_digit2_le {b:Nat}{l:List Nat}{i i':Nat}(h:i+1=i') (hi:i'<l.length):(l.getD i 0+l.getD i' 0*b)*b^i≤nb b l:=by
 subst h
 rw [nb_split b l i (by omega),drop_getD3 (k:=i) (by omega),drop_getD3 (k:=i+1) hi,Nat.mul_comm,Nat.mul_comm (l.getD (i+1) 0)]
 refine Nat.le_trans (Nat.mul_le_mul_left _ ?_) (Nat.le_add_left _ _)
 rw [Nat.mul_add]
 omega
theorem dv_head {l:List Nat}{k:Nat}(hw:Wfb 4294967296 l) (hk:k≤l.length) (h0:0<k) (hv:nb 4294967296 (l.take k)=nb 4294967296 l):nb 4294967296 l<(l.getD (k-1) 0+1)*4294967296^(k-1):=by
 obtain⟨j,rfl⟩:∃j,k=j+1:=⟨k-1,by omega⟩
 rw [←hv,nb_take_snoc 4294967296 l j (by omega),Nat.add_sub_cancel,Nat.add_mul,Nat.one_mul,Nat.mul_comm (l.getD j 0)]
 have:=nb_take_lt (by decide) hw j
 omega
theorem dv_fit {D hd k t j R:Nat}(hD:D<hd*4294967296^(k-1)) (hk:0<k) (ht:t*4294967296^(j+k-1)≤R):t/hd*D*4294967296^j≤R:=by
 have h1:t/hd*D≤t/hd*(hd*4294967296^(k-1)):=Nat.mul_le_mul_left _ (Nat.le_of_lt hD)
 have h2:t/hd*(hd*4294967296^(k-1))≤t*4294967296^(k-1):=by
  rw [←Nat.mul_assoc]
  exact Nat.mul_le_mul_right _ (Nat.div_mul_le_self t hd)
 have h3:=Nat.mul_le_mul_right (4294967296^j) (Nat.le_trans h1 h2)
 rw [Nat.mul_assoc t,←Nat.pow_add,show k-1+j=j+k-1 by omega] at h3
 exact Nat.le_trans h3 ht
theorem dv_lt {n D j R:Nat}(h:n*D*4294967296^j≤R) (hR:R<D*4294967296^(j+1)):n<4294967296:=by
 refine Nat.lt_of_not_le fun hn=>?_
 have h1:4294967296*D*4294967296^j≤n*D*4294967296^j:=Nat.mul_le_mul_right _ (Nat.mul_le_mul_right _ hn)
 have h2:4294967296*D*4294967296^j=D*4294967296^(j+1):=by rw [Nat.pow_succ];grind
 omega
structure DO (Z D k:Nat) (lq lr:List Nat):Prop where
 wq:Wfb 4294967296 lq
 wr:Wfb 4294967296 lr
 v:nb 4294967296 lq*D+nb 4294967296 lr=Z
 lt:nb 4294967296 lr<D*4294967296^k
 z:∀i,i<k→lq.getD i 0=0
structure DI (Z D j:Nat) (lq lr:List Nat):Prop where
 wq:Wfb 4294967296 lq
 wr:Wfb 4294967296 lr
 v:nb 4294967296 lq*D+nb 4294967296 lr=Z
 lt:lq.getD j 0*(D*4294967296^j)+nb 4294967296 lr<D*4294967296^(j+1)
 z:∀i,i<j→lq.getD i 0=0
theorem getD_zeros (k i:Nat):(List.replicate k 0).getD i 0=0:=by
 rw [List.getD_eq_getElem?_getD]
 by_cases h:i<k
 ·rw [List.getElem?_replicate_of_lt h];rfl
 ·rw [List.getElem?_eq_none (by rw [List.length_replicate];omega)];rfl
theorem DO.start {X Y f n m:Nat}{lr ld:List Nat}(hw:Wfb 4294967296 lr) (hr:nb 4294967296 lr=X*f) (hd:nb 4294967296 ld=Y*f) (hf:1≤f) (hX:X<4294967296^n) (hY:4294967296^(m-1)≤Y) (hm:0<m) (hmn:m≤n):
  DO (X*f) (nb 4294967296 ld) (n-m+1) (List.replicate (n-m+1) 0) lr:=by
 refine⟨Wfb_zeros (by decide) _,hw,by rw [nb_zeros,hr];omega,?_,fun i _=>getD_zeros _ i⟩
 rw [hr,hd]
 have h1:4294967296^n=4294967296^(m-1)*4294967296^(n-m+1):=by rw [←Nat.pow_add];congr 1;omega
 have h2:4294967296^(m-1)*4294967296^(n-m+1)≤Y*4294967296^(n-m+1):=Nat.mul_le_mul_right _ hY
 rw [Nat.mul_right_comm]
 exact Nat.mul_lt_mul_of_pos_right (by omega) hf
theorem DO.enter {Z D j:Nat}{lq lr:List Nat}(h:DO Z D (j+1) lq lr):DI Z D j lq lr:=⟨h.wq,h.wr,h.v,by rw [h.z j (by omega),Nat.zero_mul,Nat.zero_add];exact h.lt,fun i hi=>h.z i (by omega)⟩
theorem DI.leave {Z D j:Nat}{lq lr:List Nat}(h:DI Z D j lq lr) (hn:¬D*4294967296^j≤nb 4294967296 lr):DO Z D j lq lr:=⟨h.wq,h.wr,h.v,by omega,h.z⟩
theorem DI.sum {Z D j n:Nat}{lq lr l':List Nat}(h:DI Z D j lq lr) (hv:nb 4294967296 l'+n*D*4294967296^j=nb 4294967296 lr):(lq.getD j 0+n)*(D*4294967296^j)+nb 4294967296 l'<D*4294967296^(j+1):=by
 have h1:=h.lt
 rw [Nat.add_mul,←Nat.mul_assoc n]
 omega
theorem DI.digit {Z D j n:Nat}{lq lr l':List Nat}(h:DI Z D j lq lr) (hv:nb 4294967296 l'+n*D*4294967296^j=nb 4294967296 lr):lq.getD j 0+n<4294967296:=by
 have h1:=h.sum hv
 refine dv_lt (R:=(lq.getD j 0+n)*D*4294967296^j) (Nat.le_refl _) ?_
 rw [Nat.mul_assoc];omega
theorem DI.step {Z D j n:Nat}{lq lr l':List Nat}(h:DI Z D j lq lr) (hj:j<lq.length) (hw:Wfb 4294967296 l') (hv:nb 4294967296 l'+n*D*4294967296^j=nb 4294967296 lr):DI Z D j (lq.set j (lq.getD j 0+n)) l':=by
 refine⟨Wfb_set h.wq _ (h.digit hv),hw,?_,?_,fun i hi=>by rw [getD_set_ne (by omega),h.z i hi]⟩
 ·have h1:=nb_set 4294967296 hj (lq.getD j 0+n)
  rw [Nat.mul_add] at h1
  have h2:nb 4294967296 (lq.set j (lq.getD j 0+n))=nb 4294967296 lq+4294967296^j*n:=by omega
  have h3:=h.v
  have h4:4294967296^j*n*D=n*D*4294967296^j:=by grind
  rw [h2,Nat.add_mul,h4]
  omega
 ·rw [getD_set_eq hj];exact h.sum hv
theorem dv_less {D j n:Nat}{lr l':List Nat}(hn:1≤n) (hD:0<D) (hv:nb 4294967296 l'+n*D*4294967296^j=nb 4294967296 lr):nb 4294967296 l'<nb 4294967296 lr:=by
 have:0<n*D*4294967296^j:=Nat.mul_pos (Nat.mul_pos hn hD) (Nat.pow_pos (by decide))
 omega
theorem dv_big {Z D j k:Nat}{lq lr ld:List Nat}(h:DI Z D j lq lr) (hd:nb 4294967296 ld=D) (hw:Wfb 4294967296 ld) (hv:nb 4294967296 (ld.take k)=nb 4294967296 ld):nb 4294967296 lr<4294967296^(j+k+1):=by
 have h1:=nb_take_lt (by decide) hw k
 rw [hv,hd] at h1
 have h2:=h.lt
 have h3:D*4294967296^(j+1)≤4294967296^k*4294967296^(j+1):=Nat.mul_le_mul_right _ (Nat.le_of_lt h1)
 rw [←Nat.pow_add,show k+(j+1)=j+k+1 by omega] at h3
 omega
structure DF (f:Nat) (l0:List Nat) (k rest:Nat) (l:List Nat):Prop where
 len:l.length=l0.length
 wf:Wfb 4294967296 l
 rf:rest<f
 v:nb 4294967296 (l0.drop k)=nb 4294967296 (l.drop k)*f+rest
 same:∀i,i<k→l.getD i 0=l0.getD i 0
theorem DF.start {f n:Nat}{l0:List Nat}(hw:Wfb 4294967296 l0) (hf:1≤f) (hl:l0.length=n):DF f l0 n 0 l0:=⟨rfl,hw,hf,by rw [List.drop_of_length_le (by omega),nb_nil,Nat.zero_mul],fun _ _=>rfl⟩
theorem DF.step {f j rest:Nat}{l0 l:List Nat}(h:DF f l0 (j+1) rest l) (hj:j<l0.length) (hd:(rest*4294967296+l.getD j 0)/f<4294967296) (hf:1≤f):DF f l0 j ((rest*4294967296+l.getD j 0)%f) (l.set j ((rest*4294967296+l.getD j 0)/f)):=by
 refine⟨by rw [List.length_set,h.len],Wfb_set h.wf _ hd,Nat.mod_lt _ hf,?_,fun i hi=>by rw [getD_set_ne (by omega),h.same i (by omega)]⟩
 rw [drop_getD3 hj,drop_getD3 (xs:=l.set j _) (k:=j) (by rw [List.length_set,h.len];exact hj),getD_set_eq (by rw [h.len];exact hj),h.v,←h.same j (by omega),List.drop_set_of_lt (by omega)]
 have e:=Nat.div_add_mod (rest*4294967296+l.getD j 0) f
 generalize (rest*4294967296+l.getD j 0)/f=Q at*
 generalize (rest*4294967296+l.getD j 0)%f=R at*
 have e2:(Q+4294967296*nb 4294967296 (List.drop (j+1) l))*f=f*Q+4294967296*(nb 4294967296 (List.drop (j+1) l)*f):=by grind
 rw [e2]
 omega
theorem DF.digit {f j rest:Nat}{l0 l:List Nat}(h:DF f l0 (j+1) rest l):(rest*4294967296+l.getD j 0)/f<4294967296:=by
 have h1:=Wfb_getD (b:=4294967296) (by decide) h.wf j
 have h2:=h.rf
 rw [Nat.div_lt_iff_lt_mul (by omega)]
 have h3:(rest+1)*4294967296≤f*4294967296:=Nat.mul_le_mul_right _ h2
 rw [Nat.mul_comm 4294967296 f]
 omega
theorem dv_done {X Y f rest:Nat}{lq lr ld l:List Nat}(h:DO (X*f) (nb 4294967296 ld) 0 lq lr) (hd:nb 4294967296 ld=Y*f) (hF:DF f lr 0 rest l):nb 4294967296 lq=X/Y∧nb 4294967296 l=X%Y:=by
 have h1:=h.v
 have h2:=h.lt
 have h3:=hF.v
 have h4:=hF.rf
 rw [List.drop_zero,List.drop_zero] at h3
 rw [hd,Nat.pow_zero,Nat.mul_one] at h2
 rw [hd] at h1
 have e:(nb 4294967296 lq*Y+nb 4294967296 l)*f+rest=X*f:=by rw [Nat.add_mul,Nat.mul_assoc];omega
 have h0:rest=0:=by
  have:=congrArg (· %f) e
  simp only [Nat.mul_mod_left,Nat.add_comm _ rest,Nat.add_mul_mod_self_right] at this
  rwa [Nat.mod_eq_of_lt h4] at this
 rw [h0,Nat.add_zero] at e h3
 have e2:=Nat.eq_of_mul_eq_mul_right (by omega:0<f) e
 have h5:nb 4294967296 l<Y:=by
  rw [h3] at h2
  exact Nat.lt_of_mul_lt_mul_right h2
 have:=divmod_of3 (x:=X) (y:=Y) e2 h5
 exact this
set_option maxHeartbeats 4000000 in
theorem ref3_divide {w:World}{A D:Option Addr}{n cap m cd:Nat}{xs es:List Nat}(hx:Rd w A n cap xs) (hln:n≤274877906944) (hy:Rd w D m cd es) (hlm:m≤274877906944) (hwx:Wfb 4294967296 xs) (hwe:Wfb 4294967296 es) (hxt:n=0∨xs.getD (n-1) 0≠0) (hm0:0<m) (htop:es.getD (m-1) 0≠0):
  Calls Tryz.prog 95 #[.slice A n cap,.slice D m cd] w (Gv w (T2 (WD (nb 4294967296 xs/nb 4294967296 es)) (WD (nb 4294967296 xs%nb 4294967296 es)))):=by
 have hlen:=hx.len
 have hle:=hx.rv.le
 have hlem:=hy.len
 have hle2:=hy.rv.le
 refine sx_enter Tryz.func95 rfl (n:=143) rfl (bq rfl) (args:= [.slice A n cap,.slice D m cd]) (cw_keep [(0,.slice A n cap),(1,.slice D m cd)] ⟨rfl,rfl,trivial⟩ (sr (mv 2 rfl (ne_ (cw_seq (cw_seq ?_))))))
 by_cases hnm:n<m
 ·
  refine cw_region (mv 1 rfl (pu (v:= .int .i64 ((n:Nat):Int)) rfl (by kernel_rfl) (mv 1 rfl (pu (v:= .int .i64 ((m:Nat):Int)) rfl (by kernel_rfl) (wl_cmp rfl rfl rfl true (cb_lt_t (a:=n) (b:=m) rfl rfl (by omega)) (by decide) (ne_ (cw_true rfl (sr (mv 3 rfl (ne_ (cw_ret (eo_thenR (eo_ret [S0,.slice A n cap] rfl ⟨rfl,rfl,trivial⟩ ?_)))))))))))))
  have hlt:=small_of_top hwx hlen hlem hnm htop
  refine⟨_,rfl,⟨_,_,rfl,⟨_,_,_,rfl,?_⟩,⟨_,_,_,rfl,?_⟩⟩,(Ext.refl w)⟩
  ·rw [Nat.div_eq_of_lt hlt];exact Rd.nil _
  ·rw [Nat.mod_eq_of_lt hlt,db_of_top' b32 hwx (by rw [hlen];exact hxt)];exact hx
 ·
  refine cw_region (mv 1 rfl (pu (v:= .int .i64 ((n:Nat):Int)) rfl (by kernel_rfl) (mv 1 rfl (pu (v:= .int .i64 ((m:Nat):Int)) rfl (by kernel_rfl) (wl_cmp rfl rfl rfl false (cb_lt_f (a:=n) (b:=m) rfl rfl (by omega)) (by decide) (ne_ (cw_false rfl (cw_skip (eo_then (cw_seq ?_))))))))))
  have htb:=Wfb_getD (b:=4294967296) (by decide) hwe (m-1)
  refine cw_region (mv 1 rfl (ne_ (cw_seq (cw_block ?_))))
  refine cw_loop (T:=World×Nat)
   (fun⟨wr,f⟩=> [(0,.slice A n cap),(1,.slice D m cd),(6,.int .u64 ((f:Nat):Int))])
   (fun⟨wr,f⟩=>wr)
   (fun⟨wr,f⟩=>(Ext w wr)∧(1≤f)∧(f≤4294967295)∧(Rd wr A n cap xs)∧(Rd wr D m cd es))
   (fun⟨wr,f⟩=>4294967296-f)
   (⟨w,1⟩:World×Nat) ⟨(Ext.refl w),(by decide),(by decide),hx,hy⟩ rfl ⟨rfl,rfl,rfl,trivial⟩ ?_
  rintro⟨wr,f⟩ ⟨hw1,hf1,hf2,rl0,rl1⟩
  refine cw_re [(0,.slice A n cap),(1,.slice D m cd),(6,.int .u64 ((f:Nat):Int))] wr rfl ⟨rfl,rfl,rfl,trivial⟩ (cw_seq (cw_seq ?_))
  have hm:(es.getD (m-1) 0)*f≤4294967295*4294967295:=Nat.mul_le_mul (by omega) (by omega)
  by_cases hmul:(es.getD (m-1) 0)*f<2147483648
  ·
   have hm2:1*f≤(es.getD (m-1) 0)*f:=Nat.mul_le_mul_right _ (by omega)
   refine cw_region (mv 2 rfl (pu (v:= .int .i64 ((m:Nat):Int)) rfl (by kernel_rfl) (wl_ar rfl rfl rfl ((m-1:Nat):Int) (ai_sub (a:=m) (b:=1) rfl rfl (by omega) (by omega)) (by decide) ?_)))
   obtain⟨p1,hp1,hc1,hv1⟩:=(rl1).at (i:=m-1) (by omega)
   refine wl_idx rfl rfl rfl un_u64 sz_u64 (m-1) rfl (by omega) p1 hp1 (by decide) (wl_load rfl rfl (load_cell1 ag_u64 hc1) (by decide) (mv 1 rfl (wl_ar rfl rfl rfl (((es.getD (m-1) 0)*f:Nat):Int) (au_mul (a:=es.getD (m-1) 0) (b:=f) rfl rfl (by omega)) (by decide) (wl_cmp rfl rfl rfl true (cb_lt_t (a:=(es.getD (m-1) 0)*f) (b:=2147483648) rfl rfl (by omega)) (by decide) (ne_ (cw_true rfl (cw_skip (eo_then (cw_block (cw_region (mv 1 rfl (wl_ar rfl rfl rfl ((2*f:Nat):Int) (au_mul (a:=2) (b:=f) rfl rfl (by omega)) (by decide) (mv 1 rfl ?_)))))))))))))
   refine wl_nil (eo_block_normal (eo_round (⟨wr,2*f⟩:World×Nat) ⟨hw1,(by omega),(by omega),rl0,rl1⟩ (show 4294967296-2*f<4294967296-f by omega) rfl ⟨rfl,rfl,rfl,trivial⟩))
  ·
   refine cw_region (mv 2 rfl (pu (v:= .int .i64 ((m:Nat):Int)) rfl (by kernel_rfl) (wl_ar rfl rfl rfl ((m-1:Nat):Int) (ai_sub (a:=m) (b:=1) rfl rfl (by omega) (by omega)) (by decide) ?_)))
   obtain⟨p2,hp2,hc2,hv2⟩:=(rl1).at (i:=m-1) (by omega)
   refine wl_idx rfl rfl rfl un_u64 sz_u64 (m-1) rfl (by omega) p2 hp2 (by decide) (wl_load rfl rfl (load_cell1 ag_u64 hc2) (by decide) (mv 1 rfl (wl_ar rfl rfl rfl (((es.getD (m-1) 0)*f:Nat):Int) (au_mul (a:=es.getD (m-1) 0) (b:=f) rfl rfl (by omega)) (by decide) (wl_cmp rfl rfl rfl false (cb_lt_f (a:=(es.getD (m-1) 0)*f) (b:=2147483648) rfl rfl (by omega)) (by decide) (ne_ (cw_false rfl (cw_exit (eo_thenX (eo_loopX (eo_block_here (eo_then (sr (mv 1 rfl ?_)))))))))))))
   refine mv 1 rfl (cl (vs:= [.slice A n cap,.int .u64 ((f:Nat):Int)]) hw1 (ref3_scaled rl0 (by omega) hwx hf2) rfl (by kernel_rfl) fun xr5 v3 r5 e4 hw2=>?_)
   obtain⟨g6,l6,rfl,gb6,hb6,hl6,hwf6,hnv6⟩:=r5
   have ge7:w.heap.size≤g6:=Nat.le_trans hw1.size gb6
   have ne8:0<cap→∀a,A=some a→a.block≠g6:=fun hc a ha=>by have:=(rl0).rv.blk a ha hc;omega
   have ne9:0<cd→∀a,D=some a→a.block≠g6:=fun hc a ha=>by have:=(rl1).rv.blk a ha hc;omega
   refine mv 1 rfl (ne_ (sr (mv 2 rfl (cl (vs:= [.slice D m cd,.int .u64 ((f:Nat):Int)]) hw2 (ref3_scaled (rl1.ext e4) (by omega) hwe hf2) rfl (by kernel_rfl) fun xr12 v10 r12 e11 hw3=>?_))))
   obtain⟨g13,l13,rfl,gb13,hb13,hl13,hwf13,hnv13⟩:=r12
   have ge14:w.heap.size≤g13:=Nat.le_trans hw2.size gb13
   have q15:g6<g13:=Nat.lt_of_lt_of_le hb6.lt gb13
   have ne16:0<cap→∀a,A=some a→a.block≠g13:=fun hc a ha=>by have:=((rl0.ext e4)).rv.blk a ha hc;omega
   have ne17:0<cd→∀a,D=some a→a.block≠g13:=fun hc a ha=>by have:=((rl1.ext e4)).rv.blk a ha hc;omega
   refine mv 1 rfl (ne_ (sr (mv 1 rfl (cl (vs:= [.slice (some ⟨g13,0,none⟩) (m+1) (m+1)]) hw3 (ref3_Trim (hb13.rd0 hwf13.wf hl13 (by omega)) (by omega)) rfl (by kernel_rfl) fun xr20 v18 r20 e19 hw4=>?_))))
   obtain⟨k21,rfl,hk21,ht21,hv21⟩:=r20
   refine mv 1 rfl (ne_ (cw_seq ?_))
   have hD:=hnv13
   have hvd:=hv21 4294967296
   have hY0:=nb_pos_of_top (b:=4294967296) (by decide) (by omega) hlem htop
   have hDp:0<nb 4294967296 l13:=by rw [hD];exact Nat.mul_pos hY0 hf1
   have hkp:0<k21:=by refine Nat.pos_of_ne_zero fun e=>?_;rw [e] at hvd;simp only [List.take_zero,nb_nil] at hvd;omega
   have hhd:=dv_head hwf13 (by omega) hkp hvd
   have htopd:=Wfb_getD (b:=4294967296) (by decide) hwf13 (k21-1)
   refine cw_region (mv 1 rfl (pu (v:= .int .i64 ((n:Nat):Int)) rfl (by kernel_rfl) (mv 1 rfl (pu (v:= .int .i64 ((m:Nat):Int)) rfl (by kernel_rfl) (wl_ar rfl rfl rfl ((n-m:Nat):Int) (ai_sub (a:=n) (b:=m) rfl rfl (by omega) (by omega)) (by decide) (wl_ar rfl rfl rfl (((n-m)+1:Nat):Int) (ai_add (a:=n-m) (b:=1) rfl rfl (by omega)) (by decide) (wl_make rfl (k:=(n-m)+1) rfl rfl rfl un_u64 info64 rfl (by decide) (by omega) (by decide) fun g22 v23 hg24 hb25 e26=>?_)))))))
   rw [replicate_W64] at hb25
   have ge27:w.heap.size≤g22:=by rw [←hg24];exact hw4.size
   have q29:g6<g22:=by rw [←hg24];exact (hb6.ext (e11.trans e19)).lt
   have q30:g13<g22:=by rw [←hg24];exact (hb13.ext e19).lt
   have ne31:0<cap→∀a,A=some a→a.block≠g22:=fun hc a ha=>by have:=((rl0.ext (e4.trans (e11.trans e19)))).rv.blk a ha hc;omega
   have ne32:0<cd→∀a,D=some a→a.block≠g22:=fun hc a ha=>by have:=((rl1.ext (e4.trans (e11.trans e19)))).rv.blk a ha hc;omega
   clear hg24
   have hw5:=hw4.trans e26
   refine mv 1 rfl (ne_ (sr (mv 2 rfl (pu (v:= .int .i64 ((k21:Nat):Int)) rfl (by kernel_rfl) (wl_ar rfl rfl rfl ((k21-1:Nat):Int) (ai_sub (a:=k21) (b:=1) rfl rfl (by omega) (by omega)) (by decide) (wl_idx rfl rfl rfl un_u64 sz_u64 (k21-1) rfl (by omega) ⟨g13,k21-1,none⟩ (arr_at _ _) (by decide) (wl_load rfl rfl (load_word ag_u64 (hb13.ext (e19.trans e26)) (by rw [hl13];omega)) (by decide) (wl_ar rfl rfl rfl (((l13.getD (k21-1) 0)+1:Nat):Int) (au_add (a:=l13.getD (k21-1) 0) (b:=1) rfl rfl (by omega)) (by decide) (mv 1 rfl (ne_ (cw_seq (sr (mv 1 rfl ?_)))))))))))))
   refine pu (v:= .int .i64 ((n:Nat):Int)) rfl (by kernel_rfl) (mv 1 rfl (pu (v:= .int .i64 ((m:Nat):Int)) rfl (by kernel_rfl) (wl_ar rfl rfl rfl ((n-m:Nat):Int) (ai_sub (a:=n) (b:=m) rfl rfl (by omega) (by omega)) (by decide) (mv 1 rfl (ne_ (cw_block ?_))))))
   refine cw_loop (T:=World×Nat×Int×List Nat×List Nat)
    (fun⟨wr,k,ii,lq,lr⟩=> [(6,.int .u64 ((f:Nat):Int)),(7,.slice (some ⟨g6,0,none⟩) (n+1) (n+1)),(8,.slice (some ⟨g13,0,none⟩) k21 (m+1)),(9,.slice (some ⟨g22,0,none⟩) ((n-m)+1) ((n-m)+1)),(10,.int .u64 (((l13.getD (k21-1) 0)+1:Nat):Int)),(11,.int .i64 ii)])
    (fun⟨wr,k,ii,lq,lr⟩=>wr)
    (fun⟨wr,k,ii,lq,lr⟩=>(Ext w wr)∧(k≤n-m+1)∧(ii=(k:Int)-1)∧(Bk wr g6 38 (lr.map W64))∧(lr.length=n+1)∧(Bk wr g13 38 (l13.map W64))∧(Bk wr g22 38 (lq.map W64))∧(lq.length=n-m+1)∧(DO (nb 4294967296 xs*f) (nb 4294967296 l13) k lq lr))
    (fun⟨wr,k,ii,lq,lr⟩=>k)
    (⟨v23,n-m+1,_,_,_⟩:World×Nat×Int×List Nat×List Nat) ⟨hw5,Nat.le_refl _,(by omega),(hb6.ext (e11.trans (e19.trans e26))),hl6,(hb13.ext (e19.trans e26)),hb25,(List.length_replicate (n:=(n-m)+1) (a:=0)),DO.start hwf6 hnv6 hD hf1 (by have:=nb_lt hwx;rwa [hlen] at this) (nb_ge_of_top (by decide) (by omega) hlem htop) (by omega) (by omega)⟩ rfl ⟨rfl,rfl,rfl,rfl,rfl,rfl,trivial⟩ ?_
   rintro⟨wr,k,ii,lq,lr⟩ ⟨hw1,hk,hii,hbr,hlr,hbd,hbq,hlq,hO⟩
   refine cw_re [(6,.int .u64 ((f:Nat):Int)),(7,.slice (some ⟨g6,0,none⟩) (n+1) (n+1)),(8,.slice (some ⟨g13,0,none⟩) k21 (m+1)),(9,.slice (some ⟨g22,0,none⟩) ((n-m)+1) ((n-m)+1)),(10,.int .u64 (((l13.getD (k21-1) 0)+1:Nat):Int)),(11,.int .i64 ii)] wr rfl ⟨rfl,rfl,rfl,rfl,rfl,rfl,trivial⟩ (cw_seq (cw_seq ?_))
   by_cases hk0:0<k
   ·
    obtain⟨j,rfl⟩:∃j,k=j+1:=⟨k-1,by omega⟩
    obtain rfl:ii=(j:Int):=by omega
    refine cw_region (mv 1 rfl (wl_cmp rfl rfl rfl true (cb_ge_t (a:=j) (b:=0) rfl rfl (by omega)) (by decide) (ne_ (cw_true rfl (cw_skip (eo_then (cw_seq (cw_block (cw_block ?_)))))))))
    have hE:=hO.enter
    clear hO
    refine cw_loop (T:=World×List Nat×List Nat)
     (fun⟨wr,lq,lr⟩=> [(6,.int .u64 ((f:Nat):Int)),(7,.slice (some ⟨g6,0,none⟩) (n+1) (n+1)),(8,.slice (some ⟨g13,0,none⟩) k21 (m+1)),(9,.slice (some ⟨g22,0,none⟩) ((n-m)+1) ((n-m)+1)),(10,.int .u64 (((l13.getD (k21-1) 0)+1:Nat):Int)),(11,.int .i64 ((j:Nat):Int))])
     (fun⟨wr,lq,lr⟩=>wr)
     (fun⟨wr,lq,lr⟩=>(Ext w wr)∧(Bk wr g6 38 (lr.map W64))∧(lr.length=n+1)∧(Bk wr g13 38 (l13.map W64))∧(Bk wr g22 38 (lq.map W64))∧(lq.length=n-m+1)∧(DI (nb 4294967296 xs*f) (nb 4294967296 l13) j lq lr))
     (fun⟨wr,lq,lr⟩=>nb 4294967296 lr)
     (⟨wr,_,_⟩:World×List Nat×List Nat) ⟨hw1,hbr,hlr,hbd,hbq,hlq,hE⟩ rfl ⟨rfl,rfl,rfl,rfl,rfl,rfl,trivial⟩ ?_
    rintro⟨wr,lq,lr⟩ ⟨hw1,hbr,hlr,hbd,hbq,hlq,hI⟩
    refine cw_re [(6,.int .u64 ((f:Nat):Int)),(7,.slice (some ⟨g6,0,none⟩) (n+1) (n+1)),(8,.slice (some ⟨g13,0,none⟩) k21 (m+1)),(9,.slice (some ⟨g22,0,none⟩) ((n-m)+1) ((n-m)+1)),(10,.int .u64 (((l13.getD (k21-1) 0)+1:Nat):Int)),(11,.int .i64 ((j:Nat):Int))] wr rfl ⟨rfl,rfl,rfl,rfl,rfl,rfl,trivial⟩ (cw_block (cw_seq ?_))
    have hwr:=hI.wr
    have hb1:=Wfb_getD (b:=4294967296) (by decide) hwr ((j+k21)-1)
    have hb2:=Wfb_getD (b:=4294967296) (by decide) hwr (j+k21)
    by_cases hjk:j+k21<n+1
    ·
     have hT:=nb_digit2_le (b:=4294967296) (l:=lr) (i:=(j+k21)-1) (i':=j+k21) (by omega) (by omega)
     refine cw_region (mv 3 rfl (pu (v:= .int .i64 ((k21:Nat):Int)) rfl (by kernel_rfl) (wl_ar rfl rfl rfl ((j+k21:Nat):Int) (ai_add (a:=j) (b:=k21) rfl rfl (by omega)) (by decide) (wl_ar rfl rfl rfl (((j+k21)-1:Nat):Int) (ai_sub (a:=j+k21) (b:=1) rfl rfl (by omega) (by omega)) (by decide) (wl_idx rfl rfl rfl un_u64 sz_u64 ((j+k21)-1) rfl (by omega) ⟨g6,(j+k21)-1,none⟩ (arr_at _ _) (by decide) (wl_load rfl rfl (load_word ag_u64 hbr (by rw [hlr];omega)) (by decide) (mv 1 rfl (ne_ (cw_seq (sr (mv 2 rfl (pu (v:= .int .i64 ((k21:Nat):Int)) rfl (by kernel_rfl) (wl_ar rfl rfl rfl ((j+k21:Nat):Int) (ai_add (a:=j) (b:=k21) rfl rfl (by omega)) (by decide) ?_)))))))))))))
     refine mv 1 rfl (pu (v:= .int .i64 (((n+1):Nat):Int)) rfl (by kernel_rfl) (wl_cmp rfl rfl rfl true (cb_lt_t (a:=j+k21) (b:=n+1) rfl rfl (by omega)) (by decide) (ne_ (cw_true rfl (cw_region (mv 4 rfl (pu (v:= .int .i64 ((k21:Nat):Int)) rfl (by kernel_rfl) (wl_ar rfl rfl rfl ((j+k21:Nat):Int) (ai_add (a:=j) (b:=k21) rfl rfl (by omega)) (by decide) (wl_idx rfl rfl rfl un_u64 sz_u64 (j+k21) rfl (by omega) ⟨g6,j+k21,none⟩ (arr_at _ _) (by decide) (wl_load rfl rfl (load_word ag_u64 hbr (by rw [hlr];omega)) (by decide) (wl_ar rfl rfl rfl (((lr.getD (j+k21) 0)*4294967296:Nat):Int) (au_mul (a:=lr.getD (j+k21) 0) (b:=4294967296) rfl rfl (by omega)) (by decide) (wl_ar rfl rfl rfl (((lr.getD ((j+k21)-1) 0)+((lr.getD (j+k21) 0)*4294967296):Nat):Int) (au_add (a:=lr.getD ((j+k21)-1) 0) (b:=(lr.getD (j+k21) 0)*4294967296) rfl rfl (by omega)) (by decide) (mv 1 rfl ?_)))))))))))))
     refine ne_ (cw_seq ?_)
     have hfit:=dv_fit hhd hkp hT
     have hRlt:nb 4294967296 lr<nb 4294967296 l13*4294967296^(j+1):=Nat.lt_of_le_of_lt (Nat.le_add_left _ _) hI.lt
     by_cases hn0:((lr.getD ((j+k21)-1) 0)+((lr.getD (j+k21) 0)*4294967296))/((l13.getD (k21-1) 0)+1)=0
     ·
      by_cases hgo:nb 4294967296 l13*4294967296^j≤nb 4294967296 lr
      ·
       have hgo1:1*nb 4294967296 l13*4294967296^j≤nb 4294967296 lr:=by rw [Nat.one_mul];exact hgo
       refine cw_region (mv 2 rfl (wl_ar rfl rfl rfl ((((lr.getD ((j+k21)-1) 0)+((lr.getD (j+k21) 0)*4294967296))/((l13.getD (k21-1) 0)+1):Nat):Int) (au_quo (a:=(lr.getD ((j+k21)-1) 0)+((lr.getD (j+k21) 0)*4294967296)) (b:=(l13.getD (k21-1) 0)+1) rfl rfl (by omega) (by omega)) (by decide) (mv 1 rfl (ne_ (cw_seq (sr (mv 1 rfl (wl_cmp rfl rfl rfl true (cb_eq_t (a:=((lr.getD ((j+k21)-1) 0)+((lr.getD (j+k21) 0)*4294967296))/((l13.getD (k21-1) 0)+1)) (b:=0) rfl rfl (by omega)) (by decide) (ne_ (cw_true rfl (sr (mv 3 rfl (cl (vs:= [.slice (some ⟨g6,0,none⟩) (n+1) (n+1),.slice (some ⟨g13,0,none⟩) k21 (m+1),.int .i64 ((j:Nat):Int)]) hw1 (ref3_goes' (b:=true) (hbr.rd0 hwr.wf hlr (by omega)) (by omega) ((hbd.rd0 hwf13.wf hl13 (by omega)).take (k:=k21) (by omega) (by omega) (Nat.le_refl _)) hwr (Wfb_take hwf13 _) (by omega) (dv_big hI rfl hwf13 hvd) (by rw [hvd,decide_eq_true hgo])) rfl (by kernel_rfl) fun xr35 v33 r35 e34 hw2=>?_)))))))))))))
       obtain rfl:=r35
       refine mv 1 rfl (ne_ (cw_seq (sr (mv 1 rfl (pu (v:= .bool false) rfl (by kernel_rfl) (ne_ (cw_false rfl (cw_skip (eo_then (cw_region (mv 1 rfl (ne_ (cw_seq ?_)))))))))))))
       refine cw_region (mv 4 rfl ?_)
       have hqlt:=dv_lt hgo1 hRlt
       refine wl_call rfl rfl (vs:= [.slice (some ⟨g6,0,none⟩) (n+1) (n+1),.slice (some ⟨g13,0,none⟩) k21 (m+1),.int .u64 1,.int .i64 ((j:Nat):Int)]) (by kernel_rfl) (by decide) (ref3_takeOff (q:=1) (s:=j) (hbr.ext e34) hlr (by omega) hwr (((hbd.ext e34).rd0 hwf13.wf hl13 (by omega)).take (k:=k21) (by omega) (by omega) (Nat.le_refl _)) (Wfb_take hwf13 _) (fun _ a ha=>by cases ha;show g13≠g6;omega) hqlt (by omega) (by rw [hvd];exact hgo1)) ?_
       rintro _ v36 ⟨rfl,u37,l3,hb38,hl39,hwl3,hv3⟩
       rw [hvd] at hv3
       refine ret_intro ?_
       have hdg:=hI.digit hv3
       have hw3:=u37.ext hw2 ge7
       refine ne_ (cw_region (mv 4 rfl (wl_idx rfl rfl rfl un_u64 sz_u64 j rfl (by omega) ⟨g22,j,none⟩ (arr_at _ _) (by decide) (wl_load rfl rfl (load_word ag_u64 ((hbq.ext e34).updN u37 (by omega)) (by rw [hlq];omega)) (by decide) (mv 1 rfl (wl_ar rfl rfl rfl (((lq.getD j 0)+1:Nat):Int) (au_add (a:=lq.getD j 0) (b:=1) rfl rfl (by omega)) (by decide) (wl_idx rfl rfl rfl un_u64 sz_u64 j rfl (by omega) ⟨g22,j,none⟩ (arr_at _ _) (by decide) ?_)))))))
       have hb41:=((hbq.ext e34).updN u37 (by omega))
       refine wl_stored1 rfl rfl rfl sz_u64 rfl hb41 (len_map (by rw [hlq];omega)) rfl ((lq.set j ((lq.getD j 0)+1)).map W64) (map_W64_set _ _ _) fun v40 hb42 u43 hs44=>?_
       have hw4:=u43.ext hw3 ge27
       refine wl_nil (eo_block_normal (eo_round (⟨v40,_,_⟩:World×List Nat×List Nat) ⟨hw4,(hb38.updN u43 (by omega)),hl39,(((hbd.ext e34).updN u37 (by omega)).updN u43 (by omega)),hb42,(len_set (l:=lq) (hlq)),hI.step (by omega) hwl3 hv3⟩ (dv_less (Nat.le_refl 1) hDp hv3) rfl ⟨rfl,rfl,rfl,rfl,rfl,rfl,trivial⟩))
      ·
       refine cw_region (mv 2 rfl (wl_ar rfl rfl rfl ((((lr.getD ((j+k21)-1) 0)+((lr.getD (j+k21) 0)*4294967296))/((l13.getD (k21-1) 0)+1):Nat):Int) (au_quo (a:=(lr.getD ((j+k21)-1) 0)+((lr.getD (j+k21) 0)*4294967296)) (b:=(l13.getD (k21-1) 0)+1) rfl rfl (by omega) (by omega)) (by decide) (mv 1 rfl (ne_ (cw_seq (sr (mv 1 rfl (wl_cmp rfl rfl rfl true (cb_eq_t (a:=((lr.getD ((j+k21)-1) 0)+((lr.getD (j+k21) 0)*4294967296))/((l13.getD (k21-1) 0)+1)) (b:=0) rfl rfl (by omega)) (by decide) (ne_ (cw_true rfl (sr (mv 3 rfl (cl (vs:= [.slice (some ⟨g6,0,none⟩) (n+1) (n+1),.slice (some ⟨g13,0,none⟩) k21 (m+1),.int .i64 ((j:Nat):Int)]) hw1 (ref3_goes' (b:=false) (hbr.rd0 hwr.wf hlr (by omega)) (by omega) ((hbd.rd0 hwf13.wf hl13 (by omega)).take (k:=k21) (by omega) (by omega) (Nat.le_refl _)) hwr (Wfb_take hwf13 _) (by omega) (dv_big hI rfl hwf13 hvd) (by rw [hvd,decide_eq_false hgo])) rfl (by kernel_rfl) fun xr47 v45 r47 e46 hw2=>?_)))))))))))))
       obtain rfl:=r47
       refine mv 1 rfl (ne_ (cw_seq (sr (mv 1 rfl (pu (v:= .bool true) rfl (by kernel_rfl) (ne_ (cw_true rfl (cw_exit (eo_thenX (eo_thenX (eo_block_far (by decide) (eo_loopX (eo_block_here ?_)))))))))))))
       refine eo_block_normal (eo_then (cw_region (mv 1 rfl (wl_ar rfl rfl rfl (((j:Nat):Int)-1) (ar_i64s rfl (by omega) (by omega)) (by decide) (mv 1 rfl (wl_nil (eo_round (⟨v45,j,_,_,_⟩:World×Nat×Int×List Nat×List Nat) ⟨hw2,(by omega),(by omega),(hbr.ext e46),hlr,(hbd.ext e46),(hbq.ext e46),hlq,hI.leave hgo⟩ (show j<j+1 by omega) rfl ⟨rfl,rfl,rfl,rfl,rfl,rfl,trivial⟩)))))))
     ·
      refine cw_region (mv 2 rfl (wl_ar rfl rfl rfl ((((lr.getD ((j+k21)-1) 0)+((lr.getD (j+k21) 0)*4294967296))/((l13.getD (k21-1) 0)+1):Nat):Int) (au_quo (a:=(lr.getD ((j+k21)-1) 0)+((lr.getD (j+k21) 0)*4294967296)) (b:=(l13.getD (k21-1) 0)+1) rfl rfl (by omega) (by omega)) (by decide) (mv 1 rfl (ne_ (cw_seq (sr (mv 1 rfl (wl_cmp rfl rfl rfl false (cb_eq_f (a:=((lr.getD ((j+k21)-1) 0)+((lr.getD (j+k21) 0)*4294967296))/((l13.getD (k21-1) 0)+1)) (b:=0) rfl rfl (by omega)) (by decide) (ne_ (cw_false rfl (cw_skip (eo_then (cw_seq ?_)))))))))))))
      refine cw_region (mv 4 rfl ?_)
      have hqlt:=dv_lt hfit hRlt
      refine wl_call rfl rfl (vs:= [.slice (some ⟨g6,0,none⟩) (n+1) (n+1),.slice (some ⟨g13,0,none⟩) k21 (m+1),.int .u64 ((((lr.getD ((j+k21)-1) 0)+((lr.getD (j+k21) 0)*4294967296))/((l13.getD (k21-1) 0)+1):Nat):Int),.int .i64 ((j:Nat):Int)]) (by kernel_rfl) (by decide) (ref3_takeOff (q:=((lr.getD ((j+k21)-1) 0)+((lr.getD (j+k21) 0)*4294967296))/((l13.getD (k21-1) 0)+1)) (s:=j) hbr hlr (by omega) hwr ((hbd.rd0 hwf13.wf hl13 (by omega)).take (k:=k21) (by omega) (by omega) (Nat.le_refl _)) (Wfb_take hwf13 _) (fun _ a ha=>by cases ha;show g13≠g6;omega) hqlt (by omega) (by rw [hvd];exact hfit)) ?_
      rintro _ v48 ⟨rfl,u49,l3,hb50,hl51,hwl3,hv3⟩
      rw [hvd] at hv3
      refine ret_intro ?_
      have hdg:=hI.digit hv3
      have hw2:=u49.ext hw1 ge7
      refine ne_ (cw_region (mv 4 rfl (wl_idx rfl rfl rfl un_u64 sz_u64 j rfl (by omega) ⟨g22,j,none⟩ (arr_at _ _) (by decide) (wl_load rfl rfl (load_word ag_u64 (hbq.updN u49 (by omega)) (by rw [hlq];omega)) (by decide) (mv 1 rfl (wl_ar rfl rfl rfl (((lq.getD j 0)+(((lr.getD ((j+k21)-1) 0)+((lr.getD (j+k21) 0)*4294967296))/((l13.getD (k21-1) 0)+1)):Nat):Int) (au_add (a:=lq.getD j 0) (b:=((lr.getD ((j+k21)-1) 0)+((lr.getD (j+k21) 0)*4294967296))/((l13.getD (k21-1) 0)+1)) rfl rfl (by omega)) (by decide) (wl_idx rfl rfl rfl un_u64 sz_u64 j rfl (by omega) ⟨g22,j,none⟩ (arr_at _ _) (by decide) ?_)))))))
      have hb53:=(hbq.updN u49 (by omega))
      refine wl_stored1 rfl rfl rfl sz_u64 rfl hb53 (len_map (by rw [hlq];omega)) rfl ((lq.set j ((lq.getD j 0)+(((lr.getD ((j+k21)-1) 0)+((lr.getD (j+k21) 0)*4294967296))/((l13.getD (k21-1) 0)+1)))).map W64) (map_W64_set _ _ _) fun v52 hb54 u55 hs56=>?_
      have hw3:=u55.ext hw2 ge27
      refine wl_nil (eo_block_normal (eo_round (⟨v52,_,_⟩:World×List Nat×List Nat) ⟨hw3,(hb50.updN u55 (by omega)),hl51,((hbd.updN u49 (by omega)).updN u55 (by omega)),hb54,(len_set (l:=lq) (hlq)),hI.step (by omega) hwl3 hv3⟩ (dv_less (Nat.pos_of_ne_zero hn0) hDp hv3) rfl ⟨rfl,rfl,rfl,rfl,rfl,rfl,trivial⟩))
    ·
     have hT:=nb_digit_le (b:=4294967296) (l:=lr) (i:=(j+k21)-1) (by omega)
     refine cw_region (mv 3 rfl (pu (v:= .int .i64 ((k21:Nat):Int)) rfl (by kernel_rfl) (wl_ar rfl rfl rfl ((j+k21:Nat):Int) (ai_add (a:=j) (b:=k21) rfl rfl (by omega)) (by decide) (wl_ar rfl rfl rfl (((j+k21)-1:Nat):Int) (ai_sub (a:=j+k21) (b:=1) rfl rfl (by omega) (by omega)) (by decide) (wl_idx rfl rfl rfl un_u64 sz_u64 ((j+k21)-1) rfl (by omega) ⟨g6,(j+k21)-1,none⟩ (arr_at _ _) (by decide) (wl_load rfl rfl (load_word ag_u64 hbr (by rw [hlr];omega)) (by decide) (mv 1 rfl (ne_ (cw_seq (sr (mv 2 rfl (pu (v:= .int .i64 ((k21:Nat):Int)) rfl (by kernel_rfl) (wl_ar rfl rfl rfl ((j+k21:Nat):Int) (ai_add (a:=j) (b:=k21) rfl rfl (by omega)) (by decide) ?_)))))))))))))
     refine mv 1 rfl (pu (v:= .int .i64 (((n+1):Nat):Int)) rfl (by kernel_rfl) (wl_cmp rfl rfl rfl false (cb_lt_f (a:=j+k21) (b:=n+1) rfl rfl (by omega)) (by decide) (ne_ (cw_false rfl (cw_skip (eo_then (cw_seq ?_)))))))
     have hfit:=dv_fit hhd hkp hT
     have hRlt:nb 4294967296 lr<nb 4294967296 l13*4294967296^(j+1):=Nat.lt_of_le_of_lt (Nat.le_add_left _ _) hI.lt
     by_cases hn0:(lr.getD ((j+k21)-1) 0)/((l13.getD (k21-1) 0)+1)=0
     ·
      by_cases hgo:nb 4294967296 l13*4294967296^j≤nb 4294967296 lr
      ·
       have hgo1:1*nb 4294967296 l13*4294967296^j≤nb 4294967296 lr:=by rw [Nat.one_mul];exact hgo
       refine cw_region (mv 2 rfl (wl_ar rfl rfl rfl (((lr.getD ((j+k21)-1) 0)/((l13.getD (k21-1) 0)+1):Nat):Int) (au_quo (a:=lr.getD ((j+k21)-1) 0) (b:=(l13.getD (k21-1) 0)+1) rfl rfl (by omega) (by omega)) (by decide) (mv 1 rfl (ne_ (cw_seq (sr (mv 1 rfl (wl_cmp rfl rfl rfl true (cb_eq_t (a:=(lr.getD ((j+k21)-1) 0)/((l13.getD (k21-1) 0)+1)) (b:=0) rfl rfl (by omega)) (by decide) (ne_ (cw_true rfl (sr (mv 3 rfl (cl (vs:= [.slice (some ⟨g6,0,none⟩) (n+1) (n+1),.slice (some ⟨g13,0,none⟩) k21 (m+1),.int .i64 ((j:Nat):Int)]) hw1 (ref3_goes' (b:=true) (hbr.rd0 hwr.wf hlr (by omega)) (by omega) ((hbd.rd0 hwf13.wf hl13 (by omega)).take (k:=k21) (by omega) (by omega) (Nat.le_refl _)) hwr (Wfb_take hwf13 _) (by omega) (dv_big hI rfl hwf13 hvd) (by rw [hvd,decide_eq_true hgo])) rfl (by kernel_rfl) fun xr59 v57 r59 e58 hw2=>?_)))))))))))))
       obtain rfl:=r59
       refine mv 1 rfl (ne_ (cw_seq (sr (mv 1 rfl (pu (v:= .bool false) rfl (by kernel_rfl) (ne_ (cw_false rfl (cw_skip (eo_then (cw_region (mv 1 rfl (ne_ (cw_seq ?_)))))))))))))
       refine cw_region (mv 4 rfl ?_)
       have hqlt:=dv_lt hgo1 hRlt
       refine wl_call rfl rfl (vs:= [.slice (some ⟨g6,0,none⟩) (n+1) (n+1),.slice (some ⟨g13,0,none⟩) k21 (m+1),.int .u64 1,.int .i64 ((j:Nat):Int)]) (by kernel_rfl) (by decide) (ref3_takeOff (q:=1) (s:=j) (hbr.ext e58) hlr (by omega) hwr (((hbd.ext e58).rd0 hwf13.wf hl13 (by omega)).take (k:=k21) (by omega) (by omega) (Nat.le_refl _)) (Wfb_take hwf13 _) (fun _ a ha=>by cases ha;show g13≠g6;omega) hqlt (by omega) (by rw [hvd];exact hgo1)) ?_
       rintro _ v60 ⟨rfl,u61,l3,hb62,hl63,hwl3,hv3⟩
       rw [hvd] at hv3
       refine ret_intro ?_
       have hdg:=hI.digit hv3
       have hw3:=u61.ext hw2 ge7
       refine ne_ (cw_region (mv 4 rfl (wl_idx rfl rfl rfl un_u64 sz_u64 j rfl (by omega) ⟨g22,j,none⟩ (arr_at _ _) (by decide) (wl_load rfl rfl (load_word ag_u64 ((hbq.ext e58).updN u61 (by omega)) (by rw [hlq];omega)) (by decide) (mv 1 rfl (wl_ar rfl rfl rfl (((lq.getD j 0)+1:Nat):Int) (au_add (a:=lq.getD j 0) (b:=1) rfl rfl (by omega)) (by decide) (wl_idx rfl rfl rfl un_u64 sz_u64 j rfl (by omega) ⟨g22,j,none⟩ (arr_at _ _) (by decide) ?_)))))))
       have hb65:=((hbq.ext e58).updN u61 (by omega))
       refine wl_stored1 rfl rfl rfl sz_u64 rfl hb65 (len_map (by rw [hlq];omega)) rfl ((lq.set j ((lq.getD j 0)+1)).map W64) (map_W64_set _ _ _) fun v64 hb66 u67 hs68=>?_
       have hw4:=u67.ext hw3 ge27
       refine wl_nil (eo_block_normal (eo_round (⟨v64,_,_⟩:World×List Nat×List Nat) ⟨hw4,(hb62.updN u67 (by omega)),hl63,(((hbd.ext e58).updN u61 (by omega)).updN u67 (by omega)),hb66,(len_set (l:=lq) (hlq)),hI.step (by omega) hwl3 hv3⟩ (dv_less (Nat.le_refl 1) hDp hv3) rfl ⟨rfl,rfl,rfl,rfl,rfl,rfl,trivial⟩))
      ·
       refine cw_region (mv 2 rfl (wl_ar rfl rfl rfl (((lr.getD ((j+k21)-1) 0)/((l13.getD (k21-1) 0)+1):Nat):Int) (au_quo (a:=lr.getD ((j+k21)-1) 0) (b:=(l13.getD (k21-1) 0)+1) rfl rfl (by omega) (by omega)) (by decide) (mv 1 rfl (ne_ (cw_seq (sr (mv 1 rfl (wl_cmp rfl rfl rfl true (cb_eq_t (a:=(lr.getD ((j+k21)-1) 0)/((l13.getD (k21-1) 0)+1)) (b:=0) rfl rfl (by omega)) (by decide) (ne_ (cw_true rfl (sr (mv 3 rfl (cl (vs:= [.slice (some ⟨g6,0,none⟩) (n+1) (n+1),.slice (some ⟨g13,0,none⟩) k21 (m+1),.int .i64 ((j:Nat):Int)]) hw1 (ref3_goes' (b:=false) (hbr.rd0 hwr.wf hlr (by omega)) (by omega) ((hbd.rd0 hwf13.wf hl13 (by omega)).take (k:=k21) (by omega) (by omega) (Nat.le_refl _)) hwr (Wfb_take hwf13 _) (by omega) (dv_big hI rfl hwf13 hvd) (by rw [hvd,decide_eq_false hgo])) rfl (by kernel_rfl) fun xr71 v69 r71 e70 hw2=>?_)))))))))))))
       obtain rfl:=r71
       refine mv 1 rfl (ne_ (cw_seq (sr (mv 1 rfl (pu (v:= .bool true) rfl (by kernel_rfl) (ne_ (cw_true rfl (cw_exit (eo_thenX (eo_thenX (eo_block_far (by decide) (eo_loopX (eo_block_here ?_)))))))))))))
       refine eo_block_normal (eo_then (cw_region (mv 1 rfl (wl_ar rfl rfl rfl (((j:Nat):Int)-1) (ar_i64s rfl (by omega) (by omega)) (by decide) (mv 1 rfl (wl_nil (eo_round (⟨v69,j,_,_,_⟩:World×Nat×Int×List Nat×List Nat) ⟨hw2,(by omega),(by omega),(hbr.ext e70),hlr,(hbd.ext e70),(hbq.ext e70),hlq,hI.leave hgo⟩ (show j<j+1 by omega) rfl ⟨rfl,rfl,rfl,rfl,rfl,rfl,trivial⟩)))))))
     ·
      refine cw_region (mv 2 rfl (wl_ar rfl rfl rfl (((lr.getD ((j+k21)-1) 0)/((l13.getD (k21-1) 0)+1):Nat):Int) (au_quo (a:=lr.getD ((j+k21)-1) 0) (b:=(l13.getD (k21-1) 0)+1) rfl rfl (by omega) (by omega)) (by decide) (mv 1 rfl (ne_ (cw_seq (sr (mv 1 rfl (wl_cmp rfl rfl rfl false (cb_eq_f (a:=(lr.getD ((j+k21)-1) 0)/((l13.getD (k21-1) 0)+1)) (b:=0) rfl rfl (by omega)) (by decide) (ne_ (cw_false rfl (cw_skip (eo_then (cw_seq ?_)))))))))))))
      refine cw_region (mv 4 rfl ?_)
      have hqlt:=dv_lt hfit hRlt
      refine wl_call rfl rfl (vs:= [.slice (some ⟨g6,0,none⟩) (n+1) (n+1),.slice (some ⟨g13,0,none⟩) k21 (m+1),.int .u64 (((lr.getD ((j+k21)-1) 0)/((l13.getD (k21-1) 0)+1):Nat):Int),.int .i64 ((j:Nat):Int)]) (by kernel_rfl) (by decide) (ref3_takeOff (q:=(lr.getD ((j+k21)-1) 0)/((l13.getD (k21-1) 0)+1)) (s:=j) hbr hlr (by omega) hwr ((hbd.rd0 hwf13.wf hl13 (by omega)).take (k:=k21) (by omega) (by omega) (Nat.le_refl _)) (Wfb_take hwf13 _) (fun _ a ha=>by cases ha;show g13≠g6;omega) hqlt (by omega) (by rw [hvd];exact hfit)) ?_
      rintro _ v72 ⟨rfl,u73,l3,hb74,hl75,hwl3,hv3⟩
      rw [hvd] at hv3
      refine ret_intro ?_
      have hdg:=hI.digit hv3
      have hw2:=u73.ext hw1 ge7
      refine ne_ (cw_region (mv 4 rfl (wl_idx rfl rfl rfl un_u64 sz_u64 j rfl (by omega) ⟨g22,j,none⟩ (arr_at _ _) (by decide) (wl_load rfl rfl (load_word ag_u64 (hbq.updN u73 (by omega)) (by rw [hlq];omega)) (by decide) (mv 1 rfl (wl_ar rfl rfl rfl (((lq.getD j 0)+((lr.getD ((j+k21)-1) 0)/((l13.getD (k21-1) 0)+1)):Nat):Int) (au_add (a:=lq.getD j 0) (b:=(lr.getD ((j+k21)-1) 0)/((l13.getD (k21-1) 0)+1)) rfl rfl (by omega)) (by decide) (wl_idx rfl rfl rfl un_u64 sz_u64 j rfl (by omega) ⟨g22,j,none⟩ (arr_at _ _) (by decide) ?_)))))))
      have hb77:=(hbq.updN u73 (by omega))
      refine wl_stored1 rfl rfl rfl sz_u64 rfl hb77 (len_map (by rw [hlq];omega)) rfl ((lq.set j ((lq.getD j 0)+((lr.getD ((j+k21)-1) 0)/((l13.getD (k21-1) 0)+1)))).map W64) (map_W64_set _ _ _) fun v76 hb78 u79 hs80=>?_
      have hw3:=u79.ext hw2 ge27
      refine wl_nil (eo_block_normal (eo_round (⟨v76,_,_⟩:World×List Nat×List Nat) ⟨hw3,(hb74.updN u79 (by omega)),hl75,((hbd.updN u73 (by omega)).updN u79 (by omega)),hb78,(len_set (l:=lq) (hlq)),hI.step (by omega) hwl3 hv3⟩ (dv_less (Nat.pos_of_ne_zero hn0) hDp hv3) rfl ⟨rfl,rfl,rfl,rfl,rfl,rfl,trivial⟩))
   ·
    obtain rfl:k=0:=by omega
    refine cw_region (mv 1 rfl (wl_cmp rfl rfl rfl false (ge_f (by omega)) (by decide) (ne_ (cw_false rfl (cw_exit (eo_thenX (eo_loopX (eo_block_here (eo_then (sr (mv 1 rfl (ne_ (cw_seq ?_)))))))))))))
    refine sr (mv 1 rfl (pu (v:= .int .i64 (((n+1):Nat):Int)) rfl (by kernel_rfl) (wl_ar rfl rfl rfl (((n+1)-1:Nat):Int) (ai_sub (a:=n+1) (b:=1) rfl rfl (by omega) (by omega)) (by decide) (mv 1 rfl (ne_ (cw_block ?_))))))
    refine cw_loop (T:=World×Nat×Int×Nat×List Nat)
     (fun⟨wr,k,ii,rest,l⟩=> [(6,.int .u64 ((f:Nat):Int)),(7,.slice (some ⟨g6,0,none⟩) (n+1) (n+1)),(9,.slice (some ⟨g22,0,none⟩) ((n-m)+1) ((n-m)+1)),(15,.int .u64 ((rest:Nat):Int)),(16,.int .i64 ii)])
     (fun⟨wr,k,ii,rest,l⟩=>wr)
     (fun⟨wr,k,ii,rest,l⟩=>(Ext w wr)∧(k≤n+1)∧(ii=(k:Int)-1)∧(Bk wr g6 38 (l.map W64))∧(Bk wr g22 38 (lq.map W64))∧(DF f lr k rest l))
     (fun⟨wr,k,ii,rest,l⟩=>k)
     (⟨wr,n+1,_,0,lr⟩:World×Nat×Int×Nat×List Nat) ⟨hw1,Nat.le_refl _,(by omega),hbr,hbq,DF.start hO.wr hf1 hlr⟩ rfl ⟨rfl,rfl,rfl,rfl,rfl,trivial⟩ ?_
    rintro⟨wr,k,ii,rest,l⟩ ⟨hw1,hk,hii,hbr,hbq,hF⟩
    refine cw_re [(6,.int .u64 ((f:Nat):Int)),(7,.slice (some ⟨g6,0,none⟩) (n+1) (n+1)),(9,.slice (some ⟨g22,0,none⟩) ((n-m)+1) ((n-m)+1)),(15,.int .u64 ((rest:Nat):Int)),(16,.int .i64 ii)] wr rfl ⟨rfl,rfl,rfl,rfl,rfl,trivial⟩ ?_
    have hll:=hF.len
    rw [hlr] at hll
    refine cw_seq (cw_seq ?_)
    by_cases hk0:0<k
    ·
     obtain⟨j,rfl⟩:∃j,k=j+1:=⟨k-1,by omega⟩
     obtain rfl:ii=(j:Int):=by omega
     refine cw_region (mv 1 rfl (wl_cmp rfl rfl rfl true (cb_ge_t (a:=j) (b:=0) rfl rfl (by omega)) (by decide) (ne_ (cw_true rfl (cw_skip (eo_then (cw_seq (cw_block (cw_seq ?_)))))))))
     have hdig:=hF.digit
     have hb1:=Wfb_getD (b:=4294967296) (by decide) hF.wf j
     have hrf:=hF.rf
     refine cw_region (mv 1 rfl (wl_ar rfl rfl rfl ((rest*4294967296:Nat):Int) (au_mul (a:=rest) (b:=4294967296) rfl rfl (by omega)) (by decide) (mv 2 rfl (wl_idx rfl rfl rfl un_u64 sz_u64 j rfl (by omega) ⟨g6,j,none⟩ (arr_at _ _) (by decide) (wl_load rfl rfl (load_word ag_u64 hbr (by rw [hll];omega)) (by decide) (wl_ar rfl rfl rfl (((rest*4294967296)+(l.getD j 0):Nat):Int) (au_add (a:=rest*4294967296) (b:=l.getD j 0) rfl rfl (by omega)) (by decide) (mv 1 rfl (ne_ (sr (mv 4 rfl (wl_ar rfl rfl rfl ((((rest*4294967296)+(l.getD j 0))/f:Nat):Int) (au_quo (a:=(rest*4294967296)+(l.getD j 0)) (b:=f) rfl rfl (by omega) (by omega)) (by decide) (wl_idx rfl rfl rfl un_u64 sz_u64 j rfl (by omega) ⟨g6,j,none⟩ (arr_at _ _) (by decide) ?_))))))))))))
     have hb82:=hbr
     refine wl_stored1 rfl rfl rfl sz_u64 rfl hb82 (len_map (by rw [hll];omega)) rfl ((l.set j (((rest*4294967296)+(l.getD j 0))/f)).map W64) (map_W64_set _ _ _) fun v81 hb83 u84 hs85=>?_
     have hw2:=u84.ext hw1 ge7
     refine ne_ (cw_region (mv 2 rfl (wl_ar rfl rfl rfl ((((rest*4294967296)+(l.getD j 0))%f:Nat):Int) (au_rem (a:=(rest*4294967296)+(l.getD j 0)) (b:=f) rfl rfl (by omega)) (by decide) (mv 1 rfl (wl_nil (eo_block_normal (eo_then (cw_region (mv 1 rfl (wl_ar rfl rfl rfl (((j:Nat):Int)-1) (ar_i64s rfl (by omega) (by omega)) (by decide) (mv 1 rfl (wl_nil (eo_round (⟨v81,j,_,_,_⟩:World×Nat×Int×Nat×List Nat) ⟨hw2,(by omega),rfl,hb83,(hbq.updN u84 (by omega)),hF.step (by omega) hdig hf1⟩ (show j<j+1 by omega) rfl ⟨rfl,rfl,rfl,rfl,rfl,trivial⟩)))))))))))))
    ·
     obtain rfl:k=0:=by omega
     refine cw_region (mv 1 rfl (wl_cmp rfl rfl rfl false (ge_f (by omega)) (by decide) (ne_ (cw_false rfl (cw_exit (eo_thenX (eo_loopX (eo_block_here (eo_then (sr (mv 1 rfl (cl (vs:= [.slice (some ⟨g22,0,none⟩) ((n-m)+1) ((n-m)+1)]) hw1 (ref3_Trim (hbq.rd0 hO.wq.wf hlq (by omega)) (by omega)) rfl (by kernel_rfl) fun xr88 v86 r88 e87 hw2=>?_))))))))))))
     obtain⟨k89,rfl,hk89,ht89,hv89⟩:=r88
     refine mv 1 rfl (cl (vs:= [.slice (some ⟨g6,0,none⟩) (n+1) (n+1)]) hw2 (ref3_Trim ((hbr.ext e87).rd0 hF.wf.wf hll (by omega)) (by omega)) rfl (by kernel_rfl) fun xr92 v90 r92 e91 hw3=>?_)
     obtain⟨k93,rfl,hk93,ht93,hv93⟩:=r92
     refine mv 2 rfl (ne_ (cw_ret (eo_ret [.slice (some ⟨g22,0,none⟩) k89 ((n-m)+1),.slice (some ⟨g6,0,none⟩) k93 (n+1)] rfl ⟨rfl,rfl,trivial⟩ ?_)))
     obtain⟨e1,e2⟩:=dv_done hO hD hF
     refine⟨_,rfl,⟨_,_,rfl,⟨_,_,_,rfl,?_⟩,⟨_,_,_,rfl,?_⟩⟩,hw3⟩
     ·rw [←e1];exact ((hbq.ext (e87.trans e91)).rd0 hO.wq.wf hlq (by omega)).trim hO.wq hk89 ht89 hv89
     ·rw [←e2];exact ((hbr.ext (e87.trans e91)).rd0 hF.wf.wf hll (by omega)).trim hF.wf hk93 ht93 hv93
theorem ref3_words_ {w:World}{b:Nat}(hb:b≤w.heap.size){A:Option Addr}{n cap m:Nat}(hx:Rd w A n cap (db 4294967296 m)) (hln:n≤1099511627776):
  Calls Tryz.prog 96 #[.slice A n cap] w (Gv w (WR b m)):=by
 have h:=ref3_words hx hln (Wfb_db b32 _)
 rw [nb_db b32] at h
 exact h.mono (Gv.imp (WR.imp hb))
theorem ref3_divide_ {w:World}{A D:Option Addr}{n cap m cd X Y:Nat}(hx:Rd w A n cap (db 4294967296 X)) (hln:n≤274877906944) (hy:Rd w D m cd (db 4294967296 Y)) (hlm:m≤274877906944) (hY:Y≠0):
  Calls Tryz.prog 95 #[.slice A n cap,.slice D m cd] w (Gv w (T2 (WD (X/Y)) (WD (X%Y)))):=by
 have hl:=hx.len
 have hl2:=hy.len
 have h1:=db_top b32 X
 have h2:=db_top b32 Y
 rw [hl] at h1
 rw [hl2] at h2
 have hm:0<m:=by
  refine Nat.pos_of_ne_zero fun e=>hY ?_
  rw [←len_db_zero b32 (n:=Y),hl2,e]
 have h:=ref3_divide hx hln hy hlm (Wfb_db b32 _) (Wfb_db b32 _) h1 hm (by omega)
 rw [nb_db b32,nb_db b32] at h
 exact h
theorem len_db32 {xs:List Nat}(h:Wf xs):(db 4294967296 (nv xs)).length≤2*xs.length:=by
 refine len_db_le b32 ?_
 have:=nv_lt h
 rwa [WB_32,←Nat.pow_mul] at this
theorem Rd.hl {w:World}{A:Option Addr}{c k:Nat}{xs:List Nat}{m:Nat}{w0:World}{A0:Option Addr}{n0 c0:Nat}(h:Rd w A k c (db 4294967296 m)) (hx:Rd w0 A0 n0 c0 xs) (hm:m≤nv xs):k≤2*n0:=by
 have h1:=h.len
 have h2:=len_db32 hx.wf
 rw [hx.len] at h2
 have h3:=len_db_mono b32 hm
 omega
set_option maxHeartbeats 4000000 in
theorem ref3_DivMod_ok {w:World}{A D:Option Addr}{n cap m cd:Nat}{xs ys:List Nat}(hx:Rd w A n cap xs) (hln:n≤137438953472) (hy:Rd w D m cd ys) (hlm:m≤137438953472) (hy0:nv ys≠0):
    Calls Tryz.prog 125 #[.slice A n cap,.slice D m cd] w (Gv w (T3 (WR w.heap.size (nv xs/nv ys)) (WR w.heap.size (nv xs%nv ys)) (Is (.int .i64 0)))):=by
 refine sx_enter Tryz.func125 rfl (n:=28) rfl (bq rfl) (args:= [.slice A n cap,.slice D m cd]) (cw_keep [(0,.slice A n cap),(1,.slice D m cd)] ⟨rfl,rfl,trivial⟩ (sr (mv 3 rfl (ne_ (sr (mv 1 rfl (cl (vs:= [.slice D m cd]) (Ext.refl w) (ref3_halves hy (by omega)) rfl (by kernel_rfl) fun xr3 v1 r3 e2 hw1=>?_)))))))
 obtain⟨A4,n4,c4,rfl,rd4⟩:=r3
 refine mv 1 rfl (ne_ (cw_seq (cw_seq ?_)))
 have hdl:=rd4.hl hy (Nat.le_refl _)
 have hlz:=rd4.len
 have hlp:n4≠0:=fun e=>hy0 (by rw [←len_db_zero b32 (n:=nv ys),hlz,e])
 refine cw_region (mv 1 rfl (pu (v:= .int .i64 ((n4:Nat):Int)) rfl (by kernel_rfl) (wl_cmp rfl rfl rfl false (cb_eq_f (a:=n4) (b:=0) rfl rfl (by omega)) (by decide) (ne_ (cw_false rfl (cw_skip (eo_then (sr (mv 1 rfl (cl (vs:= [.slice A n cap]) hw1 (ref3_halves (hx.ext e2) (by omega)) rfl (by kernel_rfl) fun xr7 v5 r7 e6 hw2=>?_))))))))))
 obtain⟨A8,n8,c8,rfl,rd8⟩:=r7
 refine mv 1 rfl (ne_ (cw_seq ?_))
 have hdl2:=rd8.hl hx (Nat.le_refl _)
 refine cw_region (mv 2 rfl (cl (vs:= [.slice A8 n8 c8,.slice A4 n4 c4]) hw2 (ref3_divide_ rd8 (by omega) (rd4.ext e6) (by omega) hy0) rfl (by kernel_rfl) fun xr11 v9 r11 e10 hw3=>?_))
 obtain⟨_,_,rfl,⟨A13,n13,c13,rfl,rd13⟩,⟨A14,n14,c14,rfl,rd14⟩⟩:=r11
 refine mv 1 rfl (pu (v:= .slice A13 n13 c13) rfl (by kernel_rfl) (pu (v:= .slice A14 n14 c14) rfl (by kernel_rfl) (mv 2 rfl (ne_ (cw_seq ?_)))))
 have hdl3:=rd13.hl hx (Nat.div_le_self _ _)
 have hdl4:=rd14.hl hx (Nat.mod_le _ _)
 refine cw_region (mv 1 rfl (cl (vs:= [.slice A13 n13 c13]) hw3 (ref3_words_ hw3.size rd13 (by omega)) rfl (by kernel_rfl) fun xr17 v15 r17 e16 hw4=>?_))
 obtain⟨A18,n18,c18,rfl,j18,o18⟩:=r17
 refine mv 1 rfl (cl (vs:= [.slice A14 n14 c14]) hw4 (ref3_words_ hw4.size (rd14.ext e16) (by omega)) rfl (by kernel_rfl) fun xr21 v19 r21 e20 hw5=>?_)
 obtain⟨A22,n22,c22,rfl,j22,o22⟩:=r21
 refine mv 3 rfl (ne_ (cw_ret (eo_ret [.slice A18 n18 c18,.slice A22 n22 c22,I0] rfl ⟨rfl,rfl,rfl,trivial⟩ ?_)))
 exact⟨_,rfl,⟨_,_,_,rfl,⟨_,_,_,rfl,j18,(o18.ext e20)⟩,⟨_,_,_,rfl,j22,o22⟩,rfl⟩,hw5⟩
theorem ln_tdiv (x y:Int):ln (x.tdiv y)≤ln x:=ln_mono (by rw [Int.natAbs_tdiv];exact Nat.div_le_self _ _)
theorem ln_tmod (x y:Int):ln (x.tmod y)≤ln x:=ln_mono (by rw [Int.natAbs_tmod];exact Nat.mod_le _ _)
theorem ediv_pos {x y:Int}(h:0≤x.tmod y):x.tdiv y=x/y∧x.tmod y=x%y:=by
 have h1:=Int.tdiv_mul_add_tmod x y
 rcases Int.lt_trichotomy y 0 with hy | hy | hy
 ·have h2:x.tmod y< -y:=by have:=tmod_abs (x:=x) (y:=y) (by omega);omega
  have e:x.tmod y=x%y:=by
   have:x%y=(x.tmod y+y*x.tdiv y)%y:=by rw [Int.mul_comm y];congr 1;omega
   rw [this,Int.add_mul_emod_self_left,←Int.emod_neg,Int.emod_eq_of_lt h h2]
  refine⟨?_,e⟩
  have h3:=Int.mul_ediv_add_emod x y
  rw [←e] at h3
  refine Int.eq_of_mul_eq_mul_left (a:=y) (by omega) ?_
  rw [Int.mul_comm y (x.tdiv y)];omega
 ·subst hy;simp
 ·have h2:=Int.tmod_lt_of_pos x hy
  have e:x.tmod y=x%y:=by
   have:x%y=(x.tmod y+y*x.tdiv y)%y:=by rw [Int.mul_comm y];congr 1;omega
   rw [this,Int.add_mul_emod_self_left,Int.emod_eq_of_lt h h2]
  refine⟨?_,e⟩
  have h3:=Int.mul_ediv_add_emod x y
  rw [←e] at h3
  refine Int.eq_of_mul_eq_mul_left (a:=y) (by omega) ?_
  rw [Int.mul_comm y (x.tdiv y)];omega
theorem ediv_neg' {x y:Int}(h:x.tmod y<0) (hy:y<0):x.tdiv y+1=x/y∧x.tmod y-y=x%y:=by
 have h1:=Int.tdiv_mul_add_tmod x y
 have h2: -(x.tmod y)< -y:=by have:=tmod_abs (x:=x) (y:=y) (by omega);omega
 have e:x.tmod y-y=x%y:=by
  have:x%y=((x.tmod y-y)+y*(x.tdiv y+1))%y:=by rw [Int.mul_add,Int.mul_comm y];congr 1;omega
  rw [this,Int.add_mul_emod_self_left,←Int.emod_neg,Int.emod_eq_of_lt (by omega) (by omega)]
 refine⟨?_,e⟩
 have h3:=Int.mul_ediv_add_emod x y
 rw [←e] at h3
 refine Int.eq_of_mul_eq_mul_left (a:=y) (by omega) ?_
 rw [Int.mul_add,Int.mul_comm y (x.tdiv y)];omega
theorem ediv_pos' {x y:Int}(h:x.tmod y<0) (hy:0<y):x.tdiv y-1=x/y∧x.tmod y+y=x%y:=by
 have h1:=Int.tdiv_mul_add_tmod x y
 have h2: -(x.tmod y)<y:=by have:=tmod_abs (x:=x) (y:=y) (by omega);omega
 have e:x.tmod y+y=x%y:=by
  have:x%y=((x.tmod y+y)+y*(x.tdiv y-1))%y:=by rw [Int.mul_sub,Int.mul_comm y];congr 1;omega
  rw [this,Int.add_mul_emod_self_left,Int.emod_eq_of_lt (by omega) (by omega)]
 refine⟨?_,e⟩
 have h3:=Int.mul_ediv_add_emod x y
 rw [←e] at h3
 refine Int.eq_of_mul_eq_mul_left (a:=y) (by omega) ?_
 rw [Int.mul_sub,Int.mul_comm y (x.tdiv y)];omega
set_option maxHeartbeats 4000000 in
theorem g_zint_EuclidI {w:World}{sa:Bool}{Aa:Option Addr}{na ca:Nat}{x:Int}{sb:Bool}{Ab:Option Addr}{nb cb:Nat}{y:Int}(hx:Zi w sa Aa na ca x) (la:na≤68719476736) (hy:Zi w sb Ab nb cb y) (lb:nb≤68719476736) (h0:y≠0):
    Calls Tryz.prog 65 #[.agg #[.bool sa,.slice Aa na ca],.agg #[.bool sb,.slice Ab nb cb]] w (Gv w (T3 (ZR w.heap.size (x/y)) (ZR w.heap.size (x%y)) (Is (.int .i64 0)))):=by
 have Lx:ln x≤68719476736:=Nat.le_trans hx.ln la
 have Ly:ln y≤68719476736:=Nat.le_trans hy.ln lb
 refine sx_enter Tryz.func65 rfl (n:=41) rfl (bq rfl) (args:= [.agg #[.bool sa,.slice Aa na ca],.agg #[.bool sb,.slice Ab nb cb]]) (cw_keep [(0,.agg #[.bool sa,.slice Aa na ca]),(1,.agg #[.bool sb,.slice Ab nb cb])] ⟨rfl,rfl,trivial⟩ (sr (bx [.bool sa,.slice Aa na ca] (Ext.refl w) rfl rfl rfl fun g1 v2 hb4 ge5 e3 hw1=>(bxq [.bool sb,.slice Ab nb cb] hw1 hb4.lt rfl rfl rfl fun g6 v7 hb9 ge10 q11 e8 hw2=>(alq [F0,S0] hw2 hb9.lt (fun _=>by kernel_rfl) rfl fun g12 v13 hb15 ge16 q17 e14 hw3=>(alq [F0,S0] hw3 hb15.lt (fun _=>by kernel_rfl) rfl fun g18 v19 hb21 ge22 q23 e20 hw4=>(mv 1 rfl (ne_ (sr (lo aggInt (hb4.ext (e8.trans (e14.trans e20))) [.bool sa,.slice Aa na ca] rfl rfl rfl (lo aggInt (hb9.ext (e14.trans e20)) [.bool sb,.slice Ab nb cb] rfl rfl rfl ?_)))))))))))
 have L24:ln ((x).tdiv y)≤68719476736:=Nat.le_trans (ln_tdiv _ _) Lx
 have L25:ln ((x).tmod y)≤68719476736:=Nat.le_trans (ln_tmod _ _) Lx
 refine cl (vs:= [.agg #[.bool sa,.slice Aa na ca],.agg #[.bool sb,.slice Ab nb cb]]) hw4 (g_zint_Trunc hw4.size (hx.ext hw4) (lx_ la rfl) (hy.ext hw4) (lx_ lb rfl) h0) rfl (by kernel_rfl) fun xr28 v26 r28 e27 hw5=>?_
 obtain⟨_,_,_,rfl,⟨s30,A30,n30,c30,rfl,z30⟩,⟨s31,A31,n31,c31,rfl,z31⟩,rfl⟩:=r28
 refine mv 1 rfl (pu (v:= .agg #[.bool s30,.slice A30 n30 c30]) rfl (by kernel_rfl) (pu (v:= .agg #[.bool s31,.slice A31 n31 c31]) rfl (by kernel_rfl) (pu (v:= .int .i64 0) rfl (by kernel_rfl) (alq [F0,S0] hw5 (hb21.ext e27).lt (fun _=>by kernel_rfl) rfl fun g32 v33 hb35 ge36 q37 e34 hw6=>(alq [F0,S0] hw6 hb35.lt (fun _=>by kernel_rfl) rfl fun g38 v39 hb41 ge42 q43 e40 hw7=>?_)))))
 have hb45:=(hb35.ext e40)
 refine so aggInt hb45 [.bool s30,.slice A30 n30 c30] hw7 ge36 rfl rfl rfl rfl fun v44 hb46 u47 hw8=>?_
 have hb50:=(hb41.updN u47 (by omega))
 refine so aggInt hb50 [.bool s31,.slice A31 n31 c31] hw8 ge42 rfl rfl rfl rfl fun v49 hb51 u52 hw9=>(mv 1 rfl (ne_ (cw_seq (cw_seq ?_))))
 by_cases hr:x.tmod y<0
 · 
  obtain rfl:s31=true:=by rw [z31.sgn];exact decide_eq_true hr
  refine cw_region (mv 1 rfl (pu (v:= .bool false) rfl (by kernel_rfl) (mv 1 rfl (pf g38 0 rfl (by kernel_rfl) (wl_load rfl rfl (load_cell cellBool hb51 rfl) (by decide) (pu (v:= .bool false) rfl (by kernel_rfl) (pu (v:= .bool false) rfl (by kernel_rfl) (ne_ (cw_false rfl (cw_skip (eo_then (cw_seq (cw_seq ?_)))))))))))))
  by_cases hyn:y<0
  · 
   obtain rfl:sb=true:=by rw [hy.sgn h0];exact decide_eq_true hyn
   have hq:=ediv_neg' hr hyn
   refine cw_region (pf g6 0 rfl (by kernel_rfl) (wl_load rfl rfl (load_cell cellBool (((hb9.ext (e14.trans (e20.trans (e27.trans (e34.trans e40))))).updN u47 (by omega)).updN u52 (by omega)) rfl) (by decide) (ne_ (cw_true rfl (cw_seq ?_)))))
   have L55:ln ((x.tdiv y)+1)≤68719476737:=Nat.le_trans (ln_add L24 (show ln (1)≤1 by decide+kernel)) (by decide)
   have L57:ln ((x.tmod y)-y)≤68719476737:=Nat.le_trans (ln_sub L25 Ly) (by decide)
   refine cw_draw mix 6 [] [Is (.agg #[.bool s30,.slice A30 n30 c30]),ZR w.heap.size (1),ZR w.heap.size ((x.tdiv y)+1),Is (.agg #[.bool true,.slice A31 n31 c31]),Is (.agg #[.bool true,.slice Ab nb cb]),ZR w.heap.size ((x.tmod y)-y)] [[],[],[0,1],[],[],[3,4]] [[],[],[0,1],[],[],[0,1,2,3,4],[0,1,2,3,4,5],[0,1,2,3,4,5,6],[0,1,2,3,4,5,6,7]] rfl
    (obs_cons rfl rfl (hob rfl rfl ?_) (obs_cons rfl rfl (hob rfl rfl ?_) (obs_cons rfl rfl (hob rfl rfl ?_) (obs_cons rfl rfl (hob rfl rfl ?_) (obs_cons rfl rfl (hob rfl rfl ?_) (obs_cons rfl rfl (hob rfl rfl ?_) obs_nil)))))) ?_
   · 
    exact fun _ e60=>deps_nil (lo aggInt ((hb46.updN u52 (by omega)).ext e60) [.bool s30,.slice A30 n30 c30] rfl rfl rfl (pi_done rfl (Ext.refl _) rfl))
   · 
    intro v61 e62
    have hw10:=hw9.trans e62
    refine deps_nil (cl (vs:= [.int .i64 1]) hw10 (g_zint_Of hw10.size (by decide) (by decide)) rfl (by kernel_rfl) fun xr65 v63 r65 e64 hw11=>?_)
    obtain⟨s66,A66,n66,c66,rfl,z66⟩:=r65
    exact pi_done rfl e64 ⟨_,_,_,_,rfl,z66⟩
   · 
    intro v67 e68
    have hw10:=hw9.trans e68
    refine dk rfl rfl (deps_cons rfl rfl fun x74 y75 h76 e77 f78=>?_)
    obtain⟨s79,A79,n79,c79,rfl,z79⟩:=h76
    have z79:=z79.ext f78
    refine deps_nil ?_
    have L80:ln ((x.tdiv y)+1)≤68719476737:=Nat.le_trans (ln_add L24 (show ln (1)≤1 by decide+kernel)) (by decide)
    refine cl (vs:= [.agg #[.bool s30,.slice A30 n30 c30],.agg #[.bool s79,.slice A79 n79 c79]]) hw10 (g_zint_Add hw10.size ((((z30.ext (e34.trans e40)).updT hb45 u47).updT hb50 u52).ext e68).zi (z30.le (lx_ L24 rfl)) z79.zi (z79.le (Nat.le_trans (show ln (1)≤1 by decide+kernel) (by decide)))) rfl (by kernel_rfl) fun xr83 v81 r83 e82 hw11=>?_
    obtain⟨s84,A84,n84,c84,rfl,z84⟩:=r83
    exact pi_done rfl e82 ⟨_,_,_,_,rfl,z84⟩
   · 
    exact fun _ e86=>deps_nil (lo aggInt (hb51.ext e86) [.bool true,.slice A31 n31 c31] rfl rfl rfl (pi_done rfl (Ext.refl _) rfl))
   · 
    exact fun _ e88=>deps_nil (lo aggInt ((((hb9.ext (e14.trans (e20.trans (e27.trans (e34.trans e40))))).updN u47 (by omega)).updN u52 (by omega)).ext e88) [.bool true,.slice Ab nb cb] rfl rfl rfl (pi_done rfl (Ext.refl _) rfl))
   · 
    intro v89 e90
    have hw10:=hw9.trans e90
    refine dk rfl rfl (dk rfl rfl (deps_nil ?_))
    have L101:ln ((x.tmod y)-y)≤68719476737:=Nat.le_trans (ln_sub L25 Ly) (by decide)
    refine cl (vs:= [.agg #[.bool true,.slice A31 n31 c31],.agg #[.bool true,.slice Ab nb cb]]) hw10 (g_zint_Sub hw10.size ((((z31.ext (e34.trans e40)).updT hb45 u47).updT hb50 u52).ext e90).zi (z31.le (lx_ L25 rfl)) (hy.ext hw10) (lx_ lb rfl)) rfl (by kernel_rfl) fun xr104 v102 r104 e103 hw11=>?_
    obtain⟨s105,A105,n105,c105,rfl,z105⟩:=r104
    exact pi_done rfl e103 ⟨_,_,_,_,rfl,z105⟩
   · 
    intro v106 e107
    have hw10:=hw9.trans e107
    refine dk rfl rfl (deps_cons rfl rfl fun x113 y114 h115 e116 f117=>?_)
    obtain⟨s118,A118,n118,c118,rfl,z118⟩:=h115
    have z118:=z118.ext f117
    refine deps_cons rfl rfl fun x119 y120 h121 e122 f123=>?_
    obtain⟨s124,A124,n124,c124,rfl,z124⟩:=h121
    have z124:=z124.ext f123
    refine dk rfl rfl (dk rfl rfl (deps_cons rfl rfl fun x135 y136 h137 e138 f139=>?_))
    obtain⟨s140,A140,n140,c140,rfl,z140⟩:=h137
    have z140:=z140.ext f139
    refine deps_nil ?_
    have hb142:=((((hb15.ext (e20.trans (e27.trans (e34.trans e40)))).updN u47 (by omega)).updN u52 (by omega)).ext e107)
    refine so aggInt hb142 [.bool s124,.slice A124 n124 c124] hw10 ge16 rfl rfl rfl rfl fun v141 hb143 u144 hw11=>?_
    have hb147:=(((((hb21.ext (e27.trans (e34.trans e40))).updN u47 (by omega)).updN u52 (by omega)).ext e107).updN u144 (by omega))
    refine so aggInt hb147 [.bool s140,.slice A140 n140 c140] hw11 ge22 rfl rfl rfl rfl fun v146 hb148 u149 hw12=>(mv 1 rfl (wl_nil (eo_np (eo_then (cw_ret (eo_thenR (eo_ret [.agg #[.bool s124,.slice A124 n124 c124],.agg #[.bool s140,.slice A140 n140 c140],I0] rfl ⟨⟨_,rfl,load_agg aggInt (hb143.updN u149 (by omega)) [.bool s124,.slice A124 n124 c124] rfl (bq rfl) rfl⟩,⟨_,rfl,load_agg aggInt hb148 [.bool s140,.slice A140 n140 c140] rfl (bq rfl) rfl⟩,rfl,trivial⟩ ?_)))))))
    exact⟨_,rfl,⟨_,_,_,rfl,⟨_,_,_,_,rfl,(((z124.updT hb142 u144).updT hb147 u149)).cast (hq.1)⟩,⟨_,_,_,_,rfl,(((z140.updT hb142 u144).updT hb147 u149)).cast (hq.2)⟩,rfl⟩,hw12⟩
  · 
   obtain rfl:sb=false:=by rw [hy.sgn h0];exact decide_eq_false hyn
   have hq:=ediv_pos' hr (by omega)
   refine cw_region (pf g6 0 rfl (by kernel_rfl) (wl_load rfl rfl (load_cell cellBool (((hb9.ext (e14.trans (e20.trans (e27.trans (e34.trans e40))))).updN u47 (by omega)).updN u52 (by omega)) rfl) (by decide) (ne_ (cw_false rfl (cw_skip (eo_then (cw_seq ?_)))))))
   have L152:ln ((x.tdiv y)-1)≤68719476737:=Nat.le_trans (ln_sub L24 (show ln (1)≤1 by decide+kernel)) (by decide)
   have L154:ln ((x.tmod y)+y)≤68719476737:=Nat.le_trans (ln_add L25 Ly) (by decide)
   refine cw_draw mix 6 [] [Is (.agg #[.bool s30,.slice A30 n30 c30]),ZR w.heap.size (1),ZR w.heap.size ((x.tdiv y)-1),Is (.agg #[.bool true,.slice A31 n31 c31]),Is (.agg #[F0,.slice Ab nb cb]),ZR w.heap.size ((x.tmod y)+y)] [[],[],[0,1],[],[],[3,4]] [[],[],[0,1],[],[],[0,1,2,3,4],[0,1,2,3,4,5],[0,1,2,3,4,5,6],[0,1,2,3,4,5,6,7]] rfl
    (obs_cons rfl rfl (hob rfl rfl ?_) (obs_cons rfl rfl (hob rfl rfl ?_) (obs_cons rfl rfl (hob rfl rfl ?_) (obs_cons rfl rfl (hob rfl rfl ?_) (obs_cons rfl rfl (hob rfl rfl ?_) (obs_cons rfl rfl (hob rfl rfl ?_) obs_nil)))))) ?_
   · 
    exact fun _ e157=>deps_nil (lo aggInt ((hb46.updN u52 (by omega)).ext e157) [.bool s30,.slice A30 n30 c30] rfl rfl rfl (pi_done rfl (Ext.refl _) rfl))
   · 
    intro v158 e159
    have hw10:=hw9.trans e159
    refine deps_nil (cl (vs:= [.int .i64 1]) hw10 (g_zint_Of hw10.size (by decide) (by decide)) rfl (by kernel_rfl) fun xr162 v160 r162 e161 hw11=>?_)
    obtain⟨s163,A163,n163,c163,rfl,z163⟩:=r162
    exact pi_done rfl e161 ⟨_,_,_,_,rfl,z163⟩
   · 
    intro v164 e165
    have hw10:=hw9.trans e165
    refine dk rfl rfl (deps_cons rfl rfl fun x171 y172 h173 e174 f175=>?_)
    obtain⟨s176,A176,n176,c176,rfl,z176⟩:=h173
    have z176:=z176.ext f175
    refine deps_nil ?_
    have L177:ln ((x.tdiv y)-1)≤68719476737:=Nat.le_trans (ln_sub L24 (show ln (1)≤1 by decide+kernel)) (by decide)
    refine cl (vs:= [.agg #[.bool s30,.slice A30 n30 c30],.agg #[.bool s176,.slice A176 n176 c176]]) hw10 (g_zint_Sub hw10.size ((((z30.ext (e34.trans e40)).updT hb45 u47).updT hb50 u52).ext e165).zi (z30.le (lx_ L24 rfl)) z176.zi (z176.le (Nat.le_trans (show ln (1)≤1 by decide+kernel) (by decide)))) rfl (by kernel_rfl) fun xr180 v178 r180 e179 hw11=>?_
    obtain⟨s181,A181,n181,c181,rfl,z181⟩:=r180
    exact pi_done rfl e179 ⟨_,_,_,_,rfl,z181⟩
   · 
    exact fun _ e183=>deps_nil (lo aggInt (hb51.ext e183) [.bool true,.slice A31 n31 c31] rfl rfl rfl (pi_done rfl (Ext.refl _) rfl))
   · 
    exact fun _ e185=>deps_nil (lo aggInt ((((hb9.ext (e14.trans (e20.trans (e27.trans (e34.trans e40))))).updN u47 (by omega)).updN u52 (by omega)).ext e185) [F0,.slice Ab nb cb] rfl rfl rfl (pi_done rfl (Ext.refl _) rfl))
   · 
    intro v186 e187
    have hw10:=hw9.trans e187
    refine dk rfl rfl (dk rfl rfl (deps_nil ?_))
    have L198:ln ((x.tmod y)+y)≤68719476737:=Nat.le_trans (ln_add L25 Ly) (by decide)
    refine cl (vs:= [.agg #[.bool true,.slice A31 n31 c31],.agg #[F0,.slice Ab nb cb]]) hw10 (g_zint_Add hw10.size ((((z31.ext (e34.trans e40)).updT hb45 u47).updT hb50 u52).ext e187).zi (z31.le (lx_ L25 rfl)) (hy.ext hw10) (lx_ lb rfl)) rfl (by kernel_rfl) fun xr201 v199 r201 e200 hw11=>?_
    obtain⟨s202,A202,n202,c202,rfl,z202⟩:=r201
    exact pi_done rfl e200 ⟨_,_,_,_,rfl,z202⟩
   · 
    intro v203 e204
    have hw10:=hw9.trans e204
    refine dk rfl rfl (deps_cons rfl rfl fun x210 y211 h212 e213 f214=>?_)
    obtain⟨s215,A215,n215,c215,rfl,z215⟩:=h212
    have z215:=z215.ext f214
    refine deps_cons rfl rfl fun x216 y217 h218 e219 f220=>?_
    obtain⟨s221,A221,n221,c221,rfl,z221⟩:=h218
    have z221:=z221.ext f220
    refine dk rfl rfl (dk rfl rfl (deps_cons rfl rfl fun x232 y233 h234 e235 f236=>?_))
    obtain⟨s237,A237,n237,c237,rfl,z237⟩:=h234
    have z237:=z237.ext f236
    refine deps_nil ?_
    have hb239:=((((hb15.ext (e20.trans (e27.trans (e34.trans e40)))).updN u47 (by omega)).updN u52 (by omega)).ext e204)
    refine so aggInt hb239 [.bool s221,.slice A221 n221 c221] hw10 ge16 rfl rfl rfl rfl fun v238 hb240 u241 hw11=>?_
    have hb244:=(((((hb21.ext (e27.trans (e34.trans e40))).updN u47 (by omega)).updN u52 (by omega)).ext e204).updN u241 (by omega))
    refine so aggInt hb244 [.bool s237,.slice A237 n237 c237] hw11 ge22 rfl rfl rfl rfl fun v243 hb245 u246 hw12=>(mv 1 rfl (wl_nil (eo_np (eo_then (cw_ret (eo_ret [.agg #[.bool s221,.slice A221 n221 c221],.agg #[.bool s237,.slice A237 n237 c237],I0] rfl ⟨⟨_,rfl,load_agg aggInt (hb240.updN u246 (by omega)) [.bool s221,.slice A221 n221 c221] rfl (bq rfl) rfl⟩,⟨_,rfl,load_agg aggInt hb245 [.bool s237,.slice A237 n237 c237] rfl (bq rfl) rfl⟩,rfl,trivial⟩ ?_))))))
    exact⟨_,rfl,⟨_,_,_,rfl,⟨_,_,_,_,rfl,(((z221.updT hb239 u241).updT hb244 u246)).cast (hq.1)⟩,⟨_,_,_,_,rfl,(((z237.updT hb239 u241).updT hb244 u246)).cast (hq.2)⟩,rfl⟩,hw12⟩
 · 
  obtain rfl:s31=false:=by rw [z31.sgn];exact decide_eq_false hr
  refine cw_region (mv 1 rfl (pu (v:= .bool false) rfl (by kernel_rfl) (mv 1 rfl (pf g38 0 rfl (by kernel_rfl) (wl_load rfl rfl (load_cell cellBool hb51 rfl) (by decide) (pu (v:= .bool true) rfl (by kernel_rfl) (pu (v:= .bool true) rfl (by kernel_rfl) (ne_ (cw_true rfl (cw_seq (cw_keep [(0,.agg #[.bool sa,.slice Aa na ca]),(1,.agg #[.bool sb,.slice Ab nb cb]),(2,.pointer (some ⟨g1,0,none⟩)),(3,.pointer (some ⟨g6,0,none⟩)),(4,.pointer (some ⟨g12,0,none⟩)),(5,.pointer (some ⟨g18,0,none⟩)),(11,.agg #[.bool sa,.slice Aa na ca]),(12,.agg #[.bool sb,.slice Ab nb cb]),(13,.tuple #[.agg #[.bool s30,.slice A30 n30 c30],.agg #[F0,.slice A31 n31 c31],I0]),(10,.tuple #[.agg #[.bool s30,.slice A30 n30 c30],.agg #[F0,.slice A31 n31 c31],I0]),(14,.agg #[.bool s30,.slice A30 n30 c30]),(15,.agg #[F0,.slice A31 n31 c31]),(16,.int .i64 0),(7,.pointer (some ⟨g32,0,none⟩)),(8,.pointer (some ⟨g38,0,none⟩)),(9,.int .i64 0),(17,.int .i64 0),(18,.bool false),(19,.bool false),(20,.pointer (some ⟨g38,0,none⟩)),(21,.bool false),(22,.bool true),(23,.bool true)] ⟨rfl,rfl,rfl,rfl,rfl,rfl,rfl,rfl,rfl,rfl,rfl,rfl,rfl,rfl,rfl,rfl,rfl,rfl,rfl,rfl,rfl,rfl,rfl,trivial⟩ ?_)))))))))))
  obtain⟨v248,hv,e249⟩:∃v,v=v49.drew∧Ext v49 v:=⟨_,rfl,(Ext.refl _).drew⟩
  have hw10:=hw9.trans e249
  have hb251:=((((hb15.ext (e20.trans (e27.trans (e34.trans e40)))).updN u47 (by omega)).updN u52 (by omega)).ext e249)
  obtain⟨v250,hr255,hb252,u253,hs254⟩:=run_stored (P:=Tryz.prog) (us:= [.bool s30,.slice A30 n30 c30]) (off:=0) aggInt rfl hb251 (bq rfl) rfl [.bool s30,.slice A30 n30 c30] rfl
  have hw11:=u253.ext hw10 ge16
  have hb257:=(((((hb21.ext (e27.trans (e34.trans e40))).updN u47 (by omega)).updN u52 (by omega)).ext e249).updN u253 (by omega))
  obtain⟨v256,hr261,hb258,u259,hs260⟩:=run_stored (P:=Tryz.prog) (us:= [F0,.slice A31 n31 c31]) (off:=0) aggInt rfl hb257 (bq rfl) rfl [F0,.slice A31 n31 c31] rfl
  have hw12:=u259.ext hw11 ge22
  refine cw_det mix (w:=v248) [.agg #[.bool s30,.slice A30 n30 c30],.agg #[F0,.slice A31 n31 c31],I0,undef,undef,I0] [v248,v250,v256] [3,4] [[],[],[],[0],[1],[2]] [[],[],[],[0],[0,1,3],[0,1,2,3,4]] [(0,0),(1,0),(1,1),(2,0),(2,1),(2,2),(3,0),(4,1),(5,2)] rfl hv ?_ ?_
  · 
   refine dobs_val _ rfl rfl rfl rfl rfl (rd_load rfl (load_agg aggInt ((hb46.updN u52 (by omega)).ext e249) [.bool s30,.slice A30 n30 c30] rfl (bq rfl) rfl)) (dobs_val _ rfl rfl rfl rfl rfl (rd_load rfl (load_agg aggInt (hb51.ext e249) [F0,.slice A31 n31 c31] rfl (bq rfl) rfl)) (dobs_val _ rfl rfl rfl rfl rfl (rd_load rfl (load_agg aggInt ((hb51.ext e249).updN u253 (by omega)) [F0,.slice A31 n31 c31] rfl (bq rfl) rfl)) (dobs_val _ rfl rfl rfl rfl rfl (rd_move rfl) (dobs_val _ rfl rfl rfl rfl rfl (rd_move rfl) (dobs_val _ rfl rfl rfl rfl rfl (rd_move rfl) (dobs_sto _ rfl rfl rfl rfl rfl (rd_store rfl rfl hr255) (dobs_sto _ rfl rfl rfl rfl rfl (rd_store rfl rfl hr261) (dobs_val _ rfl rfl rfl rfl rfl (rd_assign rfl) ?_))))))))
   exact dobs_nil
  clear hv
  refine eo_keep [(0,.agg #[.bool sa,.slice Aa na ca]),(1,.agg #[.bool sb,.slice Ab nb cb]),(2,.pointer (some ⟨g1,0,none⟩)),(3,.pointer (some ⟨g6,0,none⟩)),(4,.pointer (some ⟨g12,0,none⟩)),(5,.pointer (some ⟨g18,0,none⟩)),(11,.agg #[.bool sa,.slice Aa na ca]),(12,.agg #[.bool sb,.slice Ab nb cb]),(13,.tuple #[.agg #[.bool s30,.slice A30 n30 c30],.agg #[F0,.slice A31 n31 c31],I0]),(10,.tuple #[.agg #[.bool s30,.slice A30 n30 c30],.agg #[F0,.slice A31 n31 c31],I0]),(14,.agg #[.bool s30,.slice A30 n30 c30]),(15,.agg #[F0,.slice A31 n31 c31]),(16,.int .i64 0),(7,.pointer (some ⟨g32,0,none⟩)),(8,.pointer (some ⟨g38,0,none⟩)),(9,.int .i64 0),(17,.int .i64 0),(18,.bool false),(19,.bool false),(20,.pointer (some ⟨g38,0,none⟩)),(21,.bool false),(22,.bool true),(23,.bool true),(24,.agg #[.bool s30,.slice A30 n30 c30]),(25,.agg #[F0,.slice A31 n31 c31]),(26,.int .i64 0),(6,.int .i64 0)] ⟨rfl,rfl,rfl,rfl,rfl,rfl,rfl,rfl,rfl,rfl,rfl,rfl,rfl,rfl,rfl,rfl,rfl,rfl,rfl,rfl,rfl,rfl,rfl,rfl,rfl,rfl,rfl,trivial⟩ (eo_then (cw_ret (eo_thenR (eo_ret [.agg #[.bool s30,.slice A30 n30 c30],.agg #[F0,.slice A31 n31 c31],I0] rfl ⟨⟨_,rfl,load_agg aggInt (hb252.updN u259 (by omega)) [.bool s30,.slice A30 n30 c30] rfl (bq rfl) rfl⟩,⟨_,rfl,load_agg aggInt hb258 [F0,.slice A31 n31 c31] rfl (bq rfl) rfl⟩,rfl,trivial⟩ ?_))))
  exact⟨_,rfl,⟨_,_,_,rfl,⟨_,_,_,_,rfl,(((((((z30.ext (e34.trans e40)).updT hb45 u47).updT hb50 u52).ext e249).updT hb251 u253).updT hb257 u259)).cast ((ediv_pos (by omega)).1)⟩,⟨_,_,_,_,rfl,(((((((z31.ext (e34.trans e40)).updT hb45 u47).updT hb50 u52).ext e249).updT hb251 u253).updT hb257 u259)).cast ((ediv_pos (by omega)).2)⟩,rfl⟩,hw12⟩
theorem g_zint_Euclid {w:World}{sa:Bool}{Aa:Option Addr}{na ca:Nat}{x:Int}{sb:Bool}{Ab:Option Addr}{nb cb:Nat}{y:Int}{b:Nat}(hb:b≤w.heap.size) (hx:Zi w sa Aa na ca x) (la:na≤68719476736) (hy:Zi w sb Ab nb cb y) (lb:nb≤68719476736) (h0:y≠0):
  Calls Tryz.prog 65 #[.agg #[.bool sa,.slice Aa na ca],.agg #[.bool sb,.slice Ab nb cb]] w (Gv w (T3 (ZR b (x/y)) (ZR b (x%y)) (Is (.int .i64 0)))):=(g_zint_EuclidI hx la hy lb h0).mono (Gv.imp (T3.imp (ZR.imp hb) (ZR.imp hb) Is.imp))
theorem Zi.sg_ {w:World}{s:Bool}{A:Option Addr}{n c:Nat}{z:Int}(h:Zi w s A n c z):sg s z.natAbs=z:=by
 obtain⟨xs,h1,rfl⟩:=h
 rw [sg_abs]
theorem ln_ediv (x y:Int):ln (x/y)≤ln x+1:=by
 by_cases h:x.tmod y<0
 ·rcases Int.lt_trichotomy y 0 with hy | hy | hy
  ·rw [←(ediv_neg' h hy).1]
   exact Nat.le_trans (ln_add (ln_tdiv x y) (Nat.le_refl _)) (by
    have h1:x≠0:=fun e=>by subst e;simp at h
    have h2:ln 1=1:=ln_one
    have h3:0<ln x:=by
     refine Nat.pos_of_ne_zero fun e=>h1 ?_
     have:=len_wd_zero.1 (show (wd x.natAbs).length=0 from e)
     omega
    omega)
  ·subst hy;simp [ln_zero]
  ·rw [←(ediv_pos' h hy).1]
   exact Nat.le_trans (ln_sub (ln_tdiv x y) (Nat.le_refl _)) (by
    have h1:x≠0:=fun e=>by subst e;simp at h
    have h2:ln 1=1:=ln_one
    have h3:0<ln x:=by
     refine Nat.pos_of_ne_zero fun e=>h1 ?_
     have:=len_wd_zero.1 (show (wd x.natAbs).length=0 from e)
     omega
    omega)
 ·rw [←(ediv_pos (by omega)).1]
  exact Nat.le_trans (ln_tdiv x y) (Nat.le_succ _)
theorem ln_emod {x y:Int}(h:y≠0):ln (x%y)≤ln y:=by
 refine ln_mono ?_
 have h1:=Int.emod_nonneg x h
 have h2:=Int.emod_lt x h
 omega
set_option maxHeartbeats 4000000 in
theorem g_zint_ModI {w:World}{sa:Bool}{Aa:Option Addr}{na ca:Nat}{x:Int}{sb:Bool}{Ab:Option Addr}{nb cb:Nat}{y:Int}(hx:Zi w sa Aa na ca x) (la:na≤68719476736) (hy:Zi w sb Ab nb cb y) (lb:nb≤68719476736) (h0:y≠0):
    Calls Tryz.prog 33 #[.agg #[.bool sa,.slice Aa na ca],.agg #[.bool sb,.slice Ab nb cb]] w (Gv w (T2 (ZR w.heap.size (x%y)) (Is (.int .i64 0)))):=by
 have Lx:ln x≤68719476736:=Nat.le_trans hx.ln la
 have Ly:ln y≤68719476736:=Nat.le_trans hy.ln lb
 refine sx_enter Tryz.func33 rfl (n:=18) rfl (bq rfl) (args:= [.agg #[.bool sa,.slice Aa na ca],.agg #[.bool sb,.slice Ab nb cb]]) (cw_keep [(0,.agg #[.bool sa,.slice Aa na ca]),(1,.agg #[.bool sb,.slice Ab nb cb])] ⟨rfl,rfl,trivial⟩ (sr (bx [.bool sa,.slice Aa na ca] (Ext.refl w) rfl rfl rfl fun g1 v2 hb4 ge5 e3 hw1=>(bxq [.bool sb,.slice Ab nb cb] hw1 hb4.lt rfl rfl rfl fun g6 v7 hb9 ge10 q11 e8 hw2=>(alq [F0,S0] hw2 hb9.lt (fun _=>by kernel_rfl) rfl fun g12 v13 hb15 ge16 q17 e14 hw3=>(mv 1 rfl (ne_ (sr (lo aggInt (hb4.ext (e8.trans e14)) [.bool sa,.slice Aa na ca] rfl rfl rfl (lo aggInt (hb9.ext e14) [.bool sb,.slice Ab nb cb] rfl rfl rfl ?_))))))))))
 have L18:ln (x/y)≤68719476737:=Nat.le_trans (ln_ediv _ _) (Nat.succ_le_succ Lx)
 have L19:ln (x%y)≤68719476736:=Nat.le_trans (ln_emod h0) Ly
 refine cl (vs:= [.agg #[.bool sa,.slice Aa na ca],.agg #[.bool sb,.slice Ab nb cb]]) hw3 (g_zint_Euclid hw3.size (hx.ext hw3) (lx_ la rfl) (hy.ext hw3) (lx_ lb rfl) h0) rfl (by kernel_rfl) fun xr22 v20 r22 e21 hw4=>?_
 obtain⟨_,_,_,rfl,⟨s24,A24,n24,c24,rfl,z24⟩,⟨s25,A25,n25,c25,rfl,z25⟩,rfl⟩:=r22
 refine mv 1 rfl (pu (v:= .agg #[.bool s24,.slice A24 n24 c24]) rfl (by kernel_rfl) (pu (v:= .agg #[.bool s25,.slice A25 n25 c25]) rfl (by kernel_rfl) (pu (v:= .int .i64 0) rfl (by kernel_rfl) (alq [F0,S0] hw4 (hb15.ext e21).lt (fun _=>by kernel_rfl) rfl fun g26 v27 hb29 ge30 q31 e28 hw5=>(alq [F0,S0] hw5 hb29.lt (fun _=>by kernel_rfl) rfl fun g32 v33 hb35 ge36 q37 e34 hw6=>?_)))))
 have hb39:=(hb29.ext e34)
 refine so aggInt hb39 [.bool s24,.slice A24 n24 c24] hw6 ge30 rfl rfl rfl rfl fun v38 hb40 u41 hw7=>?_
 have hb44:=(hb35.updN u41 (by omega))
 refine so aggInt hb44 [.bool s25,.slice A25 n25 c25] hw7 ge36 rfl rfl rfl rfl fun v43 hb45 u46 hw8=>(mv 1 rfl (ne_ (sr (lo aggInt hb45 [.bool s25,.slice A25 n25 c25] rfl rfl rfl (mv 1 rfl ?_)))))
 have hb49:=(((hb15.ext (e21.trans (e28.trans e34))).updN u41 (by omega)).updN u46 (by omega))
 refine so aggInt hb49 [.bool s25,.slice A25 n25 c25] hw8 ge16 rfl rfl rfl rfl fun v48 hb50 u51 hw9=>(mv 1 rfl (ne_ (cw_ret (eo_ret [.agg #[.bool s25,.slice A25 n25 c25],I0] rfl ⟨⟨_,rfl,load_agg aggInt hb50 [.bool s25,.slice A25 n25 c25] rfl (bq rfl) rfl⟩,rfl,trivial⟩ ?_))))
 exact⟨_,rfl,⟨_,_,rfl,⟨_,_,_,_,rfl,((((z25.ext (e28.trans e34)).updT hb39 u41).updT hb44 u46).updT hb49 u51)⟩,rfl⟩,hw9⟩
theorem g_zint_Mod {w:World}{sa:Bool}{Aa:Option Addr}{na ca:Nat}{x:Int}{sb:Bool}{Ab:Option Addr}{nb cb:Nat}{y:Int}{b:Nat}(hb:b≤w.heap.size) (hx:Zi w sa Aa na ca x) (la:na≤68719476736) (hy:Zi w sb Ab nb cb y) (lb:nb≤68719476736) (h0:y≠0):
  Calls Tryz.prog 33 #[.agg #[.bool sa,.slice Aa na ca],.agg #[.bool sb,.slice Ab nb cb]] w (Gv w (T2 (ZR b (x%y)) (Is (.int .i64 0)))):=(g_zint_ModI hx la hy lb h0).mono (Gv.imp (T2.imp (ZR.imp hb) Is.imp))
set_option maxHeartbeats 4000000 in
theorem g_zint_Exact_notI {w:World}{sa:Bool}{Aa:Option Addr}{na ca:Nat}{x:Int}{sb:Bool}{Ab:Option Addr}{nb cb:Nat}{y:Int}(hx:Zi w sa Aa na ca x) (la:na≤68719476736) (hy:Zi w sb Ab nb cb y) (lb:nb≤68719476736) (h0:y≠0) (hd:x.natAbs%y.natAbs≠0):
    Calls Tryz.prog 32 #[.agg #[.bool sa,.slice Aa na ca],.agg #[.bool sb,.slice Ab nb cb]] w (Gv w (T2 (ZR w.heap.size (0)) (Is (.int .i64 8)))):=by
 have Lx:ln x≤68719476736:=Nat.le_trans hx.ln la
 have Ly:ln y≤68719476736:=Nat.le_trans hy.ln lb
 refine sx_enter Tryz.func32 rfl (n:=27) rfl (bq rfl) (args:= [.agg #[.bool sa,.slice Aa na ca],.agg #[.bool sb,.slice Ab nb cb]]) (cw_keep [(0,.agg #[.bool sa,.slice Aa na ca]),(1,.agg #[.bool sb,.slice Ab nb cb])] ⟨rfl,rfl,trivial⟩ (sr (bx [.bool sa,.slice Aa na ca] (Ext.refl w) rfl rfl rfl fun g1 v2 hb4 ge5 e3 hw1=>(bxq [.bool sb,.slice Ab nb cb] hw1 hb4.lt rfl rfl rfl fun g6 v7 hb9 ge10 q11 e8 hw2=>(alq [F0,S0] hw2 hb9.lt (fun _=>by kernel_rfl) rfl fun g12 v13 hb15 ge16 q17 e14 hw3=>(mv 1 rfl (ne_ (sr (pf g1 1 rfl (by kernel_rfl) (wl_load rfl rfl (load_cell cellWords (hb4.ext (e8.trans e14)) rfl) (by decide) (pf g6 1 rfl (by kernel_rfl) (wl_load rfl rfl (load_cell cellWords (hb9.ext e14) rfl) (by decide) (cl (vs:= [.slice Aa na ca,.slice Ab nb cb]) hw3 (g_divnat_Exact_not (hx.ext hw3).wi (lx_ la rfl) (hy.ext hw3).wi (lx_ lb rfl) (by omega) hd) rfl (by kernel_rfl) fun xr20 v18 r20 e19 hw4=>?_)))))))))))))
 obtain rfl:=r20
 refine mv 1 rfl (pu (v:= .slice none 0 0) rfl (by kernel_rfl) (pu (v:= .int .i64 8) rfl (by kernel_rfl) (mv 2 rfl (ne_ (cw_seq (sr (mv 1 rfl (pu (v:= .bool true) rfl (by kernel_rfl) (ne_ (cw_true rfl (sr (pu (v:= .agg #[F0,S0]) rfl (by kernel_rfl) (mv 1 rfl ?_)))))))))))))
 have hb22:=(hb15.ext e19)
 refine so aggInt hb22 [F0,S0] hw4 ge16 rfl rfl rfl rfl fun v21 hb23 u24 hw5=>(mv 1 rfl (ne_ (cw_ret (eo_thenR (eo_ret [.agg #[F0,S0],.int .i64 8] rfl ⟨⟨_,rfl,load_agg aggInt hb23 [F0,S0] rfl (bq rfl) rfl⟩,rfl,trivial⟩ ?_)))))
 exact⟨_,rfl,⟨_,_,rfl,⟨_,_,_,_,rfl,((Zr.zero (w:=v18) (base:=w.heap.size)).updT hb22 u24)⟩,rfl⟩,hw5⟩
theorem g_zint_Exact_not {w:World}{sa:Bool}{Aa:Option Addr}{na ca:Nat}{x:Int}{sb:Bool}{Ab:Option Addr}{nb cb:Nat}{y:Int}{b:Nat}(hb:b≤w.heap.size) (hx:Zi w sa Aa na ca x) (la:na≤68719476736) (hy:Zi w sb Ab nb cb y) (lb:nb≤68719476736) (h0:y≠0) (hd:x.natAbs%y.natAbs≠0):
  Calls Tryz.prog 32 #[.agg #[.bool sa,.slice Aa na ca],.agg #[.bool sb,.slice Ab nb cb]] w (Gv w (T2 (ZR b (0)) (Is (.int .i64 8)))):=(g_zint_Exact_notI hx la hy lb h0 hd).mono (Gv.imp (T2.imp (ZR.imp hb) Is.imp))
set_option maxHeartbeats 4000000 in
theorem g_zint_Exact_okI {w:World}{sa:Bool}{Aa:Option Addr}{na ca:Nat}{x:Int}{sb:Bool}{Ab:Option Addr}{nb cb:Nat}{y:Int}(hx:Zi w sa Aa na ca x) (la:na≤68719476736) (hy:Zi w sb Ab nb cb y) (lb:nb≤68719476736) (h0:y≠0) (hd:x.natAbs%y.natAbs=0):
    Calls Tryz.prog 32 #[.agg #[.bool sa,.slice Aa na ca],.agg #[.bool sb,.slice Ab nb cb]] w (Gv w (T2 (ZR w.heap.size (x.tdiv y)) (Is (.int .i64 0)))):=by
 have Lx:ln x≤68719476736:=Nat.le_trans hx.ln la
 have Ly:ln y≤68719476736:=Nat.le_trans hy.ln lb
 refine sx_enter Tryz.func32 rfl (n:=27) rfl (bq rfl) (args:= [.agg #[.bool sa,.slice Aa na ca],.agg #[.bool sb,.slice Ab nb cb]]) (cw_keep [(0,.agg #[.bool sa,.slice Aa na ca]),(1,.agg #[.bool sb,.slice Ab nb cb])] ⟨rfl,rfl,trivial⟩ (sr (bx [.bool sa,.slice Aa na ca] (Ext.refl w) rfl rfl rfl fun g1 v2 hb4 ge5 e3 hw1=>(bxq [.bool sb,.slice Ab nb cb] hw1 hb4.lt rfl rfl rfl fun g6 v7 hb9 ge10 q11 e8 hw2=>(alq [F0,S0] hw2 hb9.lt (fun _=>by kernel_rfl) rfl fun g12 v13 hb15 ge16 q17 e14 hw3=>(mv 1 rfl (ne_ (sr (pf g1 1 rfl (by kernel_rfl) (wl_load rfl rfl (load_cell cellWords (hb4.ext (e8.trans e14)) rfl) (by decide) (pf g6 1 rfl (by kernel_rfl) (wl_load rfl rfl (load_cell cellWords (hb9.ext e14) rfl) (by decide) ?_))))))))))))
 have L1:(wd (x.natAbs/y.natAbs)).length≤68719476736:=Nat.le_trans (len_wd_mono (Nat.div_le_self _ _)) Lx
 refine cl (vs:= [.slice Aa na ca,.slice Ab nb cb]) hw3 (g_divnat_Exact hw3.size (hx.ext hw3).wi (lx_ la rfl) (hy.ext hw3).wi (lx_ lb rfl) (by omega) hd) rfl (by kernel_rfl) fun xr20 v18 r20 e19 hw4=>?_
 obtain⟨_,_,rfl,⟨A22,n22,c22,rfl,j22,o22⟩,rfl⟩:=r20
 refine mv 1 rfl (pu (v:= .slice A22 n22 c22) rfl (by kernel_rfl) (pu (v:= .int .i64 0) rfl (by kernel_rfl) (mv 2 rfl (ne_ (cw_seq (sr (mv 1 rfl (pu (v:= .bool false) rfl (by kernel_rfl) (ne_ (cw_false rfl (cw_skip (eo_then (cw_seq ?_)))))))))))))
 refine cw_region (pf g1 0 rfl (by kernel_rfl) (wl_load rfl rfl (load_cell cellBool (hb4.ext (e8.trans (e14.trans e19))) rfl) (by decide) (pf g6 0 rfl (by kernel_rfl) (wl_load rfl rfl (load_cell cellBool (hb9.ext (e14.trans e19)) rfl) (by decide) (pu (v:= .bool (!(sa==sb))) rfl (by kernel_rfl) (mv 1 rfl ?_))))))
 have L23:ln (sg (!(sa==sb)) (Int.natAbs x/Int.natAbs y))≤68719476736:=(show (wd (sg _ _).natAbs).length≤_ by rw [sg_abs];exact L1)
 refine cl (vs:= [.bool (!(sa==sb)),.slice A22 n22 c22]) hw4 (g_zint_of j22 o22) rfl (by kernel_rfl) fun xr26 v24 r26 e25 hw5=>?_
 obtain⟨s27,A27,n27,c27,rfl,z27⟩:=r26
 have hb29:=(hb15.ext (e19.trans e25))
 refine so aggInt hb29 [.bool s27,.slice A27 n27 c27] hw5 ge16 rfl rfl rfl rfl fun v28 hb30 u31 hw6=>(mv 1 rfl (ne_ (cw_ret (eo_ret [.agg #[.bool s27,.slice A27 n27 c27],I0] rfl ⟨⟨_,rfl,load_agg aggInt hb30 [.bool s27,.slice A27 n27 c27] rfl (bq rfl) rfl⟩,rfl,trivial⟩ ?_))))
 exact⟨_,rfl,⟨_,_,rfl,⟨_,_,_,_,rfl,((z27.updT hb29 u31)).cast (by rw [show (!(sa==sb))=(sa != sb) from rfl,sg_tdiv,hx.sg_,hy.sg_])⟩,rfl⟩,hw6⟩
theorem g_zint_Exact_ok {w:World}{sa:Bool}{Aa:Option Addr}{na ca:Nat}{x:Int}{sb:Bool}{Ab:Option Addr}{nb cb:Nat}{y:Int}{b:Nat}(hb:b≤w.heap.size) (hx:Zi w sa Aa na ca x) (la:na≤68719476736) (hy:Zi w sb Ab nb cb y) (lb:nb≤68719476736) (h0:y≠0) (hd:x.natAbs%y.natAbs=0):
  Calls Tryz.prog 32 #[.agg #[.bool sa,.slice Aa na ca],.agg #[.bool sb,.slice Ab nb cb]] w (Gv w (T2 (ZR b (x.tdiv y)) (Is (.int .i64 0)))):=(g_zint_Exact_okI hx la hy lb h0 hd).mono (Gv.imp (T2.imp (ZR.imp hb) Is.imp))
structure ZC where
 s:Bool
 A:Option Addr
 n:Nat
 c:Nat
theorem ln_gcd (x y:Int):ln (Int.gcd x y:Int)≤max (ln x) (ln y):=by
 by_cases h:x=0
 ·subst h
  rw [Int.gcd_zero_left]
  refine Nat.le_trans (ln_mono (x:=(y.natAbs:Int)) (y:=y) (by simp)) (Nat.le_max_right _ _)
 ·refine Nat.le_trans (ln_mono (y:=x) ?_) (Nat.le_max_left _ _)
  rw [Int.natAbs_natCast]
  exact Nat.le_of_dvd (by omega) (Int.gcd_dvd_natAbs_left x y)
theorem lcm_of {x y:Int}(h:(Int.gcd x y:Int)≠0):(Int.natAbs (x.tdiv (Int.gcd x y:Int)*y):Int)=(Int.lcm x y:Int):=by
 have h1:0<Int.gcd x y:=by omega
 have e:(Int.natAbs (x.tdiv (Int.gcd x y:Int)*y))=Int.lcm x y:=by
  rw [Int.natAbs_mul,Int.natAbs_tdiv,Int.natAbs_natCast]
  unfold Int.lcm Nat.lcm Int.gcd
  show x.natAbs/_*y.natAbs=_
  rw [Nat.mul_comm,←Nat.mul_div_assoc _ (Nat.gcd_dvd_left _ _),Nat.mul_comm]
 rw [e]
theorem gcd_mod0 (x y:Int):x.natAbs%(Int.gcd x y:Int).natAbs=0:=by
 rw [Int.natAbs_natCast]
 exact Nat.mod_eq_zero_of_dvd (Int.gcd_dvd_natAbs_left x y)
set_option maxHeartbeats 4000000 in
theorem g_bezout_LcmI {w:World}{sa:Bool}{Aa:Option Addr}{na ca:Nat}{x:Int}{sb:Bool}{Ab:Option Addr}{nb cb:Nat}{y:Int}(hx:Zi w sa Aa na ca x) (la:na≤17179869184) (hy:Zi w sb Ab nb cb y) (lb:nb≤17179869184):
    Calls Tryz.prog 46 #[.agg #[.bool sa,.slice Aa na ca],.agg #[.bool sb,.slice Ab nb cb]] w (Gv w (ZR w.heap.size ((Int.lcm x y:Int)))):=by
 have Lx:ln x≤17179869184:=Nat.le_trans hx.ln la
 have Ly:ln y≤17179869184:=Nat.le_trans hy.ln lb
 refine sx_enter Tryz.func46 rfl (n:=25) rfl (bq rfl) (args:= [.agg #[.bool sa,.slice Aa na ca],.agg #[.bool sb,.slice Ab nb cb]]) (cw_keep [(0,.agg #[.bool sa,.slice Aa na ca]),(1,.agg #[.bool sb,.slice Ab nb cb])] ⟨rfl,rfl,trivial⟩ (sr (bx [.bool sa,.slice Aa na ca] (Ext.refl w) rfl rfl rfl fun g1 v2 hb4 ge5 e3 hw1=>(bxq [.bool sb,.slice Ab nb cb] hw1 hb4.lt rfl rfl rfl fun g6 v7 hb9 ge10 q11 e8 hw2=>(alq [F0,S0] hw2 hb9.lt (fun _=>by kernel_rfl) rfl fun g12 v13 hb15 ge16 q17 e14 hw3=>(ne_ (sr (lo aggInt (hb4.ext (e8.trans e14)) [.bool sa,.slice Aa na ca] rfl rfl rfl (lo aggInt (hb9.ext e14) [.bool sb,.slice Ab nb cb] rfl rfl rfl ?_)))))))))
 have L18:ln ((Int.gcd x y:Int))≤17179869184:=Nat.le_trans (ln_gcd _ _) (Nat.max_le.2 ⟨Nat.le_trans Lx (by decide),Nat.le_trans Ly (by decide)⟩)
 refine cl (vs:= [.agg #[.bool sa,.slice Aa na ca],.agg #[.bool sb,.slice Ab nb cb]]) hw3 (g_bezout_Gcd hw3.size (hx.ext hw3) (lx_ la rfl) (hy.ext hw3) (lx_ lb rfl)) rfl (by kernel_rfl) fun xr21 v19 r21 e20 hw4=>?_
 obtain⟨s22,A22,n22,c22,rfl,z22⟩:=r21
 refine alq [F0,S0] hw4 (hb15.ext e20).lt (fun _=>by kernel_rfl) rfl fun g23 v24 hb26 ge27 q28 e25 hw5=>(so aggInt hb26 [.bool s22,.slice A22 n22 c22] hw5 ge27 rfl rfl rfl rfl fun v29 hb31 u32 hw6=>(ne_ (cw_seq (cw_seq ?_))))
 by_cases hg:(Int.gcd x y:Int)=0
 · 
  have hl:(0:Int)=(Int.lcm x y:Int):=by unfold Int.lcm Nat.lcm;have h1:Nat.gcd x.natAbs y.natAbs=0:=(by exact_mod_cast hg);rw [h1];simp
  refine cw_region (lo aggInt hb31 [.bool s22,.slice A22 n22 c22] rfl rfl rfl (cl (vs:= [.agg #[.bool s22,.slice A22 n22 c22]]) hw6 (g_zint_Sign ((z22.ext e25).updT hb26 u32).zi (z22.le (lx_ L18 rfl))) rfl (by kernel_rfl) fun xr36 v34 r36 e35 hw7=>?_))
  obtain rfl:=r36
  refine wl_cmp rfl rfl rfl true (scmp_eq_t hg) (by decide) (ne_ (cw_true rfl (sr (pu (v:= .agg #[F0,S0]) rfl (by kernel_rfl) ?_))))
  have hb38:=(((hb15.ext (e20.trans e25)).updN u32 (by omega)).ext e35)
  refine so aggInt hb38 [F0,S0] hw7 ge16 rfl rfl rfl rfl fun v37 hb39 u40 hw8=>(ne_ (cw_ret (eo_thenR (eo_ret [.agg #[F0,S0]] rfl ⟨⟨_,rfl,load_agg aggInt hb39 [F0,S0] rfl (bq rfl) rfl⟩,trivial⟩ ?_))))
  exact⟨_,rfl,⟨_,_,_,_,rfl,(((Zr.zero (w:=v34) (base:=w.heap.size)).updT hb38 u40)).cast (hl)⟩,hw8⟩
 · 
  refine cw_region (lo aggInt hb31 [.bool s22,.slice A22 n22 c22] rfl rfl rfl (cl (vs:= [.agg #[.bool s22,.slice A22 n22 c22]]) hw6 (g_zint_Sign ((z22.ext e25).updT hb26 u32).zi (z22.le (lx_ L18 rfl))) rfl (by kernel_rfl) fun xr44 v42 r44 e43 hw7=>?_))
  obtain rfl:=r44
  refine wl_cmp rfl rfl rfl false (scmp_eq_f hg) (by decide) (ne_ (cw_false rfl (cw_skip (eo_then (sr (lo aggInt (((hb4.ext (e8.trans (e14.trans (e20.trans e25)))).updN u32 (by omega)).ext e43) [.bool sa,.slice Aa na ca] rfl rfl rfl (lo aggInt (hb31.ext e43) [.bool s22,.slice A22 n22 c22] rfl rfl rfl ?_)))))))
  have L45:ln (x.tdiv (Int.gcd x y:Int))≤17179869184:=Nat.le_trans (ln_tdiv _ _) Lx
  refine cl (vs:= [.agg #[.bool sa,.slice Aa na ca],.agg #[.bool s22,.slice A22 n22 c22]]) hw7 (g_zint_Exact_ok hw7.size (hx.ext hw7) (lx_ la rfl) (((z22.ext e25).updT hb26 u32).ext e43).zi (z22.le (lx_ L18 rfl)) hg (gcd_mod0 x y)) rfl (by kernel_rfl) fun xr48 v46 r48 e47 hw8=>?_
  obtain⟨_,_,rfl,⟨s50,A50,n50,c50,rfl,z50⟩,rfl⟩:=r48
  refine mv 1 rfl (pu (v:= .agg #[.bool s50,.slice A50 n50 c50]) rfl (by kernel_rfl) (pu (v:= .int .i64 0) rfl (by kernel_rfl) (alq [F0,S0] hw8 (hb31.ext (e43.trans e47)).lt (fun _=>by kernel_rfl) rfl fun g51 v52 hb54 ge55 q56 e53 hw9=>(so aggInt hb54 [.bool s50,.slice A50 n50 c50] hw9 ge55 rfl rfl rfl rfl fun v57 hb59 u60 hw10=>(mv 1 rfl (ne_ (sr (lo aggInt hb59 [.bool s50,.slice A50 n50 c50] rfl rfl rfl (lo aggInt ((((hb9.ext (e14.trans (e20.trans e25))).updN u32 (by omega)).ext (e43.trans (e47.trans e53))).updN u60 (by omega)) [.bool sb,.slice Ab nb cb] rfl rfl rfl ?_)))))))))
  have L62:ln ((x.tdiv (Int.gcd x y:Int))*y)≤34359738368:=Nat.le_trans (ln_mul L45 Ly) (by decide)
  refine cl (vs:= [.agg #[.bool s50,.slice A50 n50 c50],.agg #[.bool sb,.slice Ab nb cb]]) hw10 (g_zint_Mul hw10.size ((z50.ext e53).updT hb54 u60).zi (z50.le (lx_ L45 rfl)) (hy.ext hw10) (lx_ lb rfl)) rfl (by kernel_rfl) fun xr65 v63 r65 e64 hw11=>?_
  obtain⟨s66,A66,n66,c66,rfl,z66⟩:=r65
  have L67:ln ((Int.natAbs ((x.tdiv (Int.gcd x y:Int))*y):Int))≤34359738368:=(by rw [ln_abs];exact L62)
  refine cl (vs:= [.agg #[.bool s66,.slice A66 n66 c66]]) hw11 (g_zint_Abs hw11.size z66.zi (z66.le (lx_ L62 rfl))) rfl (by kernel_rfl) fun xr70 v68 r70 e69 hw12=>?_
  obtain⟨s71,A71,n71,c71,rfl,z71⟩:=r70
  have hb73:=(((((hb15.ext (e20.trans e25)).updN u32 (by omega)).ext (e43.trans (e47.trans e53))).updN u60 (by omega)).ext (e64.trans e69))
  refine so aggInt hb73 [.bool s71,.slice A71 n71 c71] hw12 ge16 rfl rfl rfl rfl fun v72 hb74 u75 hw13=>(ne_ (cw_ret (eo_ret [.agg #[.bool s71,.slice A71 n71 c71]] rfl ⟨⟨_,rfl,load_agg aggInt hb74 [.bool s71,.slice A71 n71 c71] rfl (bq rfl) rfl⟩,trivial⟩ ?_)))
  exact⟨_,rfl,⟨_,_,_,_,rfl,((z71.updT hb73 u75)).cast (lcm_of hg)⟩,hw13⟩
theorem g_bezout_Lcm {w:World}{sa:Bool}{Aa:Option Addr}{na ca:Nat}{x:Int}{sb:Bool}{Ab:Option Addr}{nb cb:Nat}{y:Int}{b:Nat}(hb:b≤w.heap.size) (hx:Zi w sa Aa na ca x) (la:na≤17179869184) (hy:Zi w sb Ab nb cb y) (lb:nb≤17179869184):
  Calls Tryz.prog 46 #[.agg #[.bool sa,.slice Aa na ca],.agg #[.bool sb,.slice Ab nb cb]] w (Gv w (ZR b ((Int.lcm x y:Int)))):=(g_bezout_LcmI hx la hy lb).mono (Gv.imp (ZR.imp hb))
structure ExtI (x y r0 r1 m0 m1:Int):Prop where
 nn0:0≤r0
 nn1:0≤r1
 gcd:Int.gcd r0 r1=Int.gcd x y
 d0:y∣r0-m0*x.natAbs
 d1:y∣r1-m1*x.natAbs
 bal:m1.natAbs*r0.natAbs+m0.natAbs*r1.natAbs=y.natAbs
 sgn:m0*m1≤0
 b0:r0.natAbs≤max x.natAbs y.natAbs
 b1:r1.natAbs≤y.natAbs
 mb0:m0.natAbs≤y.natAbs
 mb1:m1.natAbs≤y.natAbs
theorem ExtI.init {x y:Int}(h:y≠0):ExtI x y x.natAbs y.natAbs 1 0 where
 nn0:=by omega
 nn1:=by omega
 gcd:=by simp [Int.gcd]
 d0:=by simp
 d1:=by
  rw [Int.zero_mul,Int.sub_zero]
  exact Int.dvd_natAbs.2 (Int.dvd_refl y)
 bal:=by simp
 sgn:=by decide
 b0:=by rw [Int.natAbs_natCast];exact Nat.le_max_left _ _
 b1:=by simp
 mb0:=by show 1≤_;omega
 mb1:=by simp
theorem natAbs_opp {a b c:Int}(h:a*b≤0) (hc:0≤c):(a-c*b).natAbs=a.natAbs+c.natAbs*b.natAbs:=by
 rw [←Int.natAbs_mul]
 have h2:a*(c*b)≤0:=by
  have:a*(c*b)=c*(a*b):=by grind
  rw [this]
  exact Int.mul_nonpos_of_nonneg_of_nonpos hc h
 rcases Int.lt_trichotomy a 0 with ha | ha | ha
 ·have:0≤c*b:=by
   refine Int.le_of_not_gt fun hl=>?_
   have:=Int.mul_pos_of_neg_of_neg ha hl
   omega
  omega
 ·subst ha;simp
 ·have:c*b≤0:=by
   refine Int.le_of_not_gt fun hl=>?_
   have:=Int.mul_pos ha hl
   omega
  omega
theorem ExtI.step {x y r0 r1 m0 m1:Int}(h:ExtI x y r0 r1 m0 m1) (hr:r1≠0):ExtI x y r1 (r0.tmod r1) m1 (m0-r0.tdiv r1*m1):=by
 have e:=Int.tdiv_mul_add_tmod r0 r1
 have nn:=Int.tmod_nonneg r1 h.nn0
 have hq:0≤r0.tdiv r1:=Int.tdiv_nonneg h.nn0 h.nn1
 have hlt:r0.tmod r1<r1:=Int.tmod_lt_of_pos _ (by have:=h.nn1;omega)
 have hab:=natAbs_opp h.sgn hq
 have hbal:(m0-r0.tdiv r1*m1).natAbs*r1.natAbs+m1.natAbs*(r0.tmod r1).natAbs=y.natAbs:=by
  rw [hab,←h.bal]
  have e2:r0.natAbs=(r0.tdiv r1).natAbs*r1.natAbs+(r0.tmod r1).natAbs:=by
   rw [←Int.natAbs_mul,←Int.natAbs_add_of_nonneg (Int.mul_nonneg hq h.nn1) nn,e]
  rw [e2]
  grind
 refine⟨h.nn1,nn,?_,h.d1,?_,hbal,?_,Nat.le_trans h.b1 (Nat.le_max_right _ _),?_,h.mb1,?_⟩
 ·rw [←h.gcd]
  have:Int.gcd r0 r1=Int.gcd (r0.tmod r1+r1*r0.tdiv r1) r1:=by
   congr 1
   rw [Int.mul_comm];omega
  rw [this,Int.gcd_add_mul_left_left,Int.gcd_comm]
 ·have e3:r0.tmod r1-(m0-r0.tdiv r1*m1)*x.natAbs=(r0-m0*x.natAbs)-r0.tdiv r1*(r1-m1*x.natAbs):=by
   have:r0.tmod r1=r0-r0.tdiv r1*r1:=by omega
   rw [this];grind
  rw [e3]
  exact Int.dvd_sub h.d0 (Int.dvd_mul_of_dvd_right h.d1)
 ·have e4:m1*(m0-r0.tdiv r1*m1)=m0*m1-r0.tdiv r1*(m1*m1):=by grind
  rw [e4]
  have h1:0≤m1*m1:=by
   rcases Int.le_total 0 m1 with h | h
   ·exact Int.mul_nonneg h h
   ·exact Int.mul_nonneg_of_nonpos_of_nonpos h h
  have:=Int.mul_nonneg hq h1
  have:=h.sgn
  omega
 ·have:=h.b1
  have h2:(r0.tmod r1).natAbs≤r1.natAbs:=by omega
  omega
 ·have h1:1≤r1.natAbs:=by omega
  have h2:(m0-r0.tdiv r1*m1).natAbs≤(m0-r0.tdiv r1*m1).natAbs*r1.natAbs:=Nat.le_mul_of_pos_right _ h1
  omega
structure Bez (x y u v:Int):Prop where
 zero:y=0→u=x.sign∧v=0
 eq:x*u+y*v=Int.gcd x y
 lo:y≠0→0≤u
 hi:y≠0→u*Int.gcd x y<y.natAbs
theorem ExtI.done {x y r0 m0 m1 z:Int}(h:ExtI x y r0 0 m0 m1) (hy:y≠0) (hz:z=if x<0 then-m0 else m0):
  r0=(Int.gcd x y:Int)∧r0≠0∧y.tdiv r0≠0∧y.natAbs%r0.natAbs=0∧(r0-x*(z%y.tdiv r0)).natAbs%y.natAbs=0∧Bez x y (z%y.tdiv r0) ((r0-x*(z%y.tdiv r0)).tdiv y):=by
 have hg:=h.gcd
 rw [Int.gcd_zero_right] at hg
 have e0:r0=(Int.gcd x y:Int):=by have:=h.nn0;omega
 have hpos:0<Int.gcd x y:=Int.gcd_pos_of_ne_zero_right x hy
 have hr0:r0≠0:=by omega
 obtain⟨p,hp⟩:=Int.gcd_dvd_right x y
 obtain⟨q,hq⟩:=Int.gcd_dvd_left x y
 rw [←e0] at hp hq
 have hpd:y.tdiv r0=p:=by rw [hp];exact Int.mul_tdiv_cancel_left _ hr0
 have hp0:p≠0:=fun e=>hy (by rw [hp,e,Int.mul_zero])
 have hz1:y∣r0-x*z:=by
  have hd:=h.d0
  have hx:x*z=m0*x.natAbs:=by
   rw [hz]
   by_cases hn:x<0
   ·rw [if_pos hn]
    have:(x.natAbs:Int)= -x:=by omega
    rw [this];grind
   ·rw [if_neg hn]
    have:(x.natAbs:Int)=x:=by omega
    rw [this];grind
  rw [hx];exact hd
 have hm:=Int.mul_ediv_add_emod z p
 have hdvd:y∣r0-x*(z%p):=by
  have e1:r0-x*(z%p)=(r0-x*z)+y*(q*(z/p)):=by
   have e2:z%p=z-p*(z/p):=by omega
   have e3:x*(p*(z/p))=y*(q*(z/p)):=by
    calc x*(p*(z/p))=(r0*q)*(p*(z/p)):=by rw [←hq]
     _=(r0*p)*(q*(z/p)):=by grind
     _=y*(q*(z/p)):=by rw [←hp]
   rw [e2,Int.mul_sub,e3]
   omega
  rw [e1]
  exact Int.dvd_add hz1 (Int.dvd_mul_right _ _)
 refine⟨e0,hr0,by rw [hpd];exact hp0,?_,?_,?_⟩
 ·refine Nat.mod_eq_zero_of_dvd (Int.natAbs_dvd_natAbs.2 ⟨p,hp⟩)
 ·rw [hpd]
  exact Nat.mod_eq_zero_of_dvd (Int.natAbs_dvd_natAbs.2 hdvd)
 ·rw [hpd]
  refine⟨fun e=>absurd e hy,?_,fun _=>Int.emod_nonneg _ hp0,fun _=>?_⟩
  ·have:=Int.mul_tdiv_cancel' hdvd
   rw [←e0]
   omega
  ·rw [←e0]
   have h1:=Int.emod_lt z hp0
   have h2:(z%p)*r0<p.natAbs*r0:=Int.mul_lt_mul_of_pos_right h1 (by omega)
   have h3:(y.natAbs:Int)=p.natAbs*r0:=by
    rw [hp,Int.natAbs_mul]
    have:(r0.natAbs:Int)=r0:=by omega
    rw [Int.natCast_mul,this,Int.mul_comm]
   omega
theorem scmp_sign (x:Int):scmp x 0=x.sign:=by
 unfold scmp
 rcases Int.lt_trichotomy x 0 with h | h | h
 ·rw [if_pos h,Int.sign_eq_neg_one_of_neg h]
 ·subst h;rfl
 ·rw [if_neg (by omega),if_neg (by omega),Int.sign_eq_one_of_pos h]
theorem ln_w1 {x:Int}(h1: -18446744073709551615≤x) (h2:x≤18446744073709551615):ln x≤1:=len_wd_le (by rw [WB_def,Nat.pow_one];omega)
theorem scmp_i64 (x y:Int): -9223372036854775808≤scmp x y∧scmp x y≤9223372036854775807:=by have:=scmp_bd x y;omega
theorem ln_max {a b c:Int}{N:Nat}(h:a.natAbs≤max b.natAbs c.natAbs) (hb:ln b≤N) (hc:ln c≤N):ln a≤N:=by
 rcases Nat.le_total b.natAbs c.natAbs with h1 | h1
 ·exact Nat.le_trans (ln_mono (by omega)) hc
 ·exact Nat.le_trans (ln_mono (by omega)) hb
theorem Bez.ofZero {x y:Int}(h:y=0):Bez x y x.sign 0:=by
 subst h
 refine⟨fun _=>⟨rfl,rfl⟩,?_,fun h=>absurd rfl h,fun h=>absurd rfl h⟩
 rw [Int.mul_zero,Int.add_zero,Int.gcd_zero_right]
 rcases Int.lt_trichotomy x 0 with h | h | h
 ·rw [Int.sign_eq_neg_one_of_neg h];omega
 ·subst h;rfl
 ·rw [Int.sign_eq_one_of_pos h];omega
set_option maxHeartbeats 4000000 in
theorem g_bezout_ExtI {w:World}{sa:Bool}{Aa:Option Addr}{na ca:Nat}{x:Int}{sb:Bool}{Ab:Option Addr}{nb cb:Nat}{y:Int}(hx:Zi w sa Aa na ca x) (la:na≤17179869184) (hy:Zi w sb Ab nb cb y) (lb:nb≤17179869184):
    Calls Tryz.prog 9 #[.agg #[.bool sa,.slice Aa na ca],.agg #[.bool sb,.slice Ab nb cb]] w (fun e w'=>∃u v,Bez x y u v∧Gv w (T3 (ZR w.heap.size (Int.gcd x y:Int)) (ZR w.heap.size u) (ZR w.heap.size v)) e w'):=by
 have Lx:ln x≤17179869184:=Nat.le_trans hx.ln la
 have Ly:ln y≤17179869184:=Nat.le_trans hy.ln lb
 refine sx_enter Tryz.func9 rfl (n:=94) rfl (bq rfl) (args:= [.agg #[.bool sa,.slice Aa na ca],.agg #[.bool sb,.slice Ab nb cb]]) (cw_keep [(0,.agg #[.bool sa,.slice Aa na ca]),(1,.agg #[.bool sb,.slice Ab nb cb])] ⟨rfl,rfl,trivial⟩ (sr (bx [.bool sa,.slice Aa na ca] (Ext.refl w) rfl rfl rfl fun g1 v2 hb4 ge5 e3 hw1=>(bxq [.bool sb,.slice Ab nb cb] hw1 hb4.lt rfl rfl rfl fun g6 v7 hb9 ge10 q11 e8 hw2=>(alq [F0,S0] hw2 hb9.lt (fun _=>by kernel_rfl) rfl fun g12 v13 hb15 ge16 q17 e14 hw3=>(alq [F0,S0] hw3 hb15.lt (fun _=>by kernel_rfl) rfl fun g18 v19 hb21 ge22 q23 e20 hw4=>(alq [F0,S0] hw4 hb21.lt (fun _=>by kernel_rfl) rfl fun g24 v25 hb27 ge28 q29 e26 hw5=>(ne_ (cw_seq (cw_seq ?_))))))))))
 by_cases h0:y=0
 · 
  refine cw_region (lo aggInt (hb9.ext (e14.trans (e20.trans e26))) [.bool sb,.slice Ab nb cb] rfl rfl rfl (cl (vs:= [.agg #[.bool sb,.slice Ab nb cb]]) hw5 (g_zint_Sign (hy.ext hw5) (lx_ lb rfl)) rfl (by kernel_rfl) fun xr32 v30 r32 e31 hw6=>?_))
  obtain rfl:=r32
  refine wl_cmp rfl rfl rfl true (scmp_eq_t h0) (by decide) (ne_ (cw_true rfl (cw_seq ?_)))
  have L33:ln ((Int.natAbs x:Int))≤17179869184:=(by rw [ln_abs];exact Lx)
  refine cw_draw mix 6 [5] [Is (.agg #[.bool sa,.slice Aa na ca]),ZR w.heap.size ((Int.natAbs x:Int)),Is (.agg #[.bool sa,.slice Aa na ca]),Is (.int .i64 (scmp x 0)),ZR w.heap.size (scmp x 0),Is (.agg #[F0,S0])] [[],[0],[],[2],[3],[]] [[],[0],[],[0,1,2],[0,1,2,3],[],[0,1,2,3,4],[0,1,2,3,4,6],[0,1,2,3,4,5,6,7]] rfl
   (obs_cons rfl rfl (hob rfl rfl ?_) (obs_cons rfl rfl (hob rfl rfl ?_) (obs_cons rfl rfl (hob rfl rfl ?_) (obs_cons rfl rfl (hob rfl rfl ?_) (obs_cons rfl rfl (hob rfl rfl ?_) (obs_float rfl rfl (fob rfl ?_) obs_nil)))))) ?_
  · 
   exact fun _ e37=>deps_nil (lo aggInt (hb4.ext (e8.trans (e14.trans (e20.trans (e26.trans (e31.trans e37)))))) [.bool sa,.slice Aa na ca] rfl rfl rfl (pi_done rfl (Ext.refl _) rfl))
  · 
   intro v38 e39
   have hw7:=hw6.trans e39
   refine dk rfl rfl (deps_nil ?_)
   have L45:ln ((Int.natAbs x:Int))≤17179869184:=(by rw [ln_abs];exact Lx)
   refine cl (vs:= [.agg #[.bool sa,.slice Aa na ca]]) hw7 (g_zint_Abs hw7.size (hx.ext hw7) (lx_ la rfl)) rfl (by kernel_rfl) fun xr48 v46 r48 e47 hw8=>?_
   obtain⟨s49,A49,n49,c49,rfl,z49⟩:=r48
   exact pi_done rfl e47 ⟨_,_,_,_,rfl,z49⟩
  · 
   exact fun _ e51=>deps_nil (lo aggInt (hb4.ext (e8.trans (e14.trans (e20.trans (e26.trans (e31.trans e51)))))) [.bool sa,.slice Aa na ca] rfl rfl rfl (pi_done rfl (Ext.refl _) rfl))
  · 
   intro v52 e53
   have hw7:=hw6.trans e53
   refine dk rfl rfl (deps_nil (cl (vs:= [.agg #[.bool sa,.slice Aa na ca]]) hw7 (g_zint_Sign (hx.ext hw7) (lx_ la rfl)) rfl (by kernel_rfl) fun xr61 v59 r61 e60 hw8=>?_))
   obtain rfl:=r61
   exact pi_done rfl e60 rfl
  · 
   intro v62 e63
   have hw7:=hw6.trans e63
   refine dk rfl rfl (deps_nil (cl (vs:= [.int .i64 (scmp x 0)]) hw7 (g_zint_Of hw7.size (scmp_i64 _ _).1 (scmp_i64 _ _).2) rfl (by kernel_rfl) fun xr71 v69 r71 e70 hw8=>?_))
   obtain⟨s72,A72,n72,c72,rfl,z72⟩:=r71
   exact pi_done rfl e70 ⟨_,_,_,_,rfl,z72⟩
  · 
   exact fun _ _=>deps_nil (⟨.agg #[F0,S0],rfl,rfl,fun _=>by kernel_rfl,rfl⟩)
  · 
   intro v75 e76
   have hw7:=hw6.trans e76
   refine dk rfl rfl (deps_cons rfl rfl fun x82 y83 h84 e85 f86=>?_)
   obtain⟨s87,A87,n87,c87,rfl,z87⟩:=h84
   have z87:=z87.ext f86
   refine dk rfl rfl (dk rfl rfl (deps_cons rfl rfl fun x98 y99 h100 e101 f102=>?_))
   obtain⟨s103,A103,n103,c103,rfl,z103⟩:=h100
   have z103:=z103.ext f102
   refine dk rfl rfl (deps_nil ?_)
   have hb110:=(hb15.ext (e20.trans (e26.trans (e31.trans e76))))
   refine so aggInt hb110 [.bool s87,.slice A87 n87 c87] hw7 ge16 rfl rfl rfl rfl fun v109 hb111 u112 hw8=>?_
   have hb115:=((hb21.ext (e26.trans (e31.trans e76))).updN u112 (by omega))
   refine so aggInt hb115 [.bool s103,.slice A103 n103 c103] hw8 ge22 rfl rfl rfl rfl fun v114 hb116 u117 hw9=>?_
   have hb120:=(((hb27.ext (e31.trans e76)).updN u112 (by omega)).updN u117 (by omega))
   refine so aggInt hb120 [F0,S0] hw9 ge28 rfl rfl rfl rfl fun v119 hb121 u122 hw10=>(wl_nil (eo_np (eo_then (cw_ret (eo_thenR (eo_ret [.agg #[.bool s87,.slice A87 n87 c87],.agg #[.bool s103,.slice A103 n103 c103],.agg #[F0,S0]] rfl ⟨⟨_,rfl,load_agg aggInt ((hb111.updN u117 (by omega)).updN u122 (by omega)) [.bool s87,.slice A87 n87 c87] rfl (bq rfl) rfl⟩,⟨_,rfl,load_agg aggInt (hb116.updN u122 (by omega)) [.bool s103,.slice A103 n103 c103] rfl (bq rfl) rfl⟩,⟨_,rfl,load_agg aggInt hb121 [F0,S0] rfl (bq rfl) rfl⟩,trivial⟩ ?_))))))
   exact⟨_,_,Bez.ofZero h0,_,rfl,⟨_,_,_,rfl,⟨_,_,_,_,rfl,((((z87.updT hb110 u112).updT hb115 u117).updT hb120 u122)).cast (by subst h0;simp)⟩,⟨_,_,_,_,rfl,((((z103.updT hb110 u112).updT hb115 u117).updT hb120 u122)).cast (scmp_sign x)⟩,⟨_,_,_,_,rfl,(((((Zr.zero (w:=v30) (base:=w.heap.size)).ext e76).updT hb110 u112).updT hb115 u117).updT hb120 u122)⟩⟩,hw10⟩
 · 
  refine cw_region (lo aggInt (hb9.ext (e14.trans (e20.trans e26))) [.bool sb,.slice Ab nb cb] rfl rfl rfl (cl (vs:= [.agg #[.bool sb,.slice Ab nb cb]]) hw5 (g_zint_Sign (hy.ext hw5) (lx_ lb rfl)) rfl (by kernel_rfl) fun xr126 v124 r126 e125 hw6=>?_))
  obtain rfl:=r126
  refine wl_cmp rfl rfl rfl false (scmp_eq_f h0) (by decide) (ne_ (cw_false rfl (cw_skip (eo_then (cw_seq ?_)))))
  have L127:ln ((Int.natAbs x:Int))≤17179869184:=(by rw [ln_abs];exact Lx)
  have L129:ln ((Int.natAbs y:Int))≤17179869184:=(by rw [ln_abs];exact Ly)
  refine cw_draw mix 6 [] [Is (.agg #[.bool sa,.slice Aa na ca]),ZR w.heap.size ((Int.natAbs x:Int)),Is (.agg #[.bool sb,.slice Ab nb cb]),ZR w.heap.size ((Int.natAbs y:Int)),fun v' w'=>∃s0 A0 n0 c0 s1 A1 n1 c1,v'= .agg #[.bool s0,.slice A0 n0 c0,.bool s1,.slice A1 n1 c1]∧Zr w' w.heap.size s0 A0 n0 c0 ((Int.natAbs x:Int))∧Zr w' w.heap.size s1 A1 n1 c1 ((Int.natAbs y:Int)),PR v124.heap.size 62 [F0,S0,F0,S0]] [[],[0],[],[2],[1,3],[]] [[],[0],[],[0,1,2],[0,1,2,3],[],[0,1,2,3,4,5]] rfl
   (obs_cons rfl rfl (hob rfl rfl ?_) (obs_cons rfl rfl (hob rfl rfl ?_) (obs_cons rfl rfl (hob rfl rfl ?_) (obs_cons rfl rfl (hob rfl rfl ?_) (obs_cons rfl rfl (hob rfl rfl ?_) (obs_cons rfl rfl (hob rfl rfl ?_) obs_nil)))))) ?_
  · 
   exact fun _ e134=>deps_nil (lo aggInt (hb4.ext (e8.trans (e14.trans (e20.trans (e26.trans (e125.trans e134)))))) [.bool sa,.slice Aa na ca] rfl rfl rfl (pi_done rfl (Ext.refl _) rfl))
  · 
   intro v135 e136
   have hw7:=hw6.trans e136
   refine dk rfl rfl (deps_nil ?_)
   have L142:ln ((Int.natAbs x:Int))≤17179869184:=(by rw [ln_abs];exact Lx)
   refine cl (vs:= [.agg #[.bool sa,.slice Aa na ca]]) hw7 (g_zint_Abs hw7.size (hx.ext hw7) (lx_ la rfl)) rfl (by kernel_rfl) fun xr145 v143 r145 e144 hw8=>?_
   obtain⟨s146,A146,n146,c146,rfl,z146⟩:=r145
   exact pi_done rfl e144 ⟨_,_,_,_,rfl,z146⟩
  · 
   exact fun _ e148=>deps_nil (lo aggInt (hb9.ext (e14.trans (e20.trans (e26.trans (e125.trans e148))))) [.bool sb,.slice Ab nb cb] rfl rfl rfl (pi_done rfl (Ext.refl _) rfl))
  · 
   intro v149 e150
   have hw7:=hw6.trans e150
   refine dk rfl rfl (deps_nil ?_)
   have L156:ln ((Int.natAbs y:Int))≤17179869184:=(by rw [ln_abs];exact Ly)
   refine cl (vs:= [.agg #[.bool sb,.slice Ab nb cb]]) hw7 (g_zint_Abs hw7.size (hy.ext hw7) (lx_ lb rfl)) rfl (by kernel_rfl) fun xr159 v157 r159 e158 hw8=>?_
   obtain⟨s160,A160,n160,c160,rfl,z160⟩:=r159
   exact pi_done rfl e158 ⟨_,_,_,_,rfl,z160⟩
  · 
   intro v161 e162
   refine deps_cons rfl rfl fun x163 y164 h165 e166 f167=>?_
   obtain⟨s168,A168,n168,c168,rfl,z168⟩:=h165
   have z168:=z168.ext f167
   refine deps_cons rfl rfl fun x169 y170 h171 e172 f173=>?_
   obtain⟨s174,A174,n174,c174,rfl,z174⟩:=h171
   have z174:=z174.ext f173
   refine deps_nil (pu (v:= .agg #[.bool s168,.slice A168 n168 c168,.bool s174,.slice A174 n174 c174]) rfl (by kernel_rfl) ?_)
   exact pi_done rfl (Ext.refl _) ⟨_,_,_,_,_,_,_,_,rfl,z168,z174⟩
  · 
   intro v175 e176
   refine deps_nil (wl_alloc rfl (z:= .agg #[F0,S0,F0,S0]) (vs:= [F0,S0,F0,S0]) (fun _=>by kernel_rfl) rfl (by decide) fun g177 v178 nb=>?_)
   exact pi_done rfl nb.ext ⟨_,rfl,by rw [←nb.at_];exact e176.size,nb.bk⟩
  · 
   intro v179 e180
   have hw7:=hw6.trans e180
   refine dk rfl rfl (deps_cons rfl rfl fun x186 y187 h188 e189 f190=>?_)
   obtain⟨s191,A191,n191,c191,rfl,z191⟩:=h188
   have z191:=z191.ext f190
   refine dk rfl rfl (deps_cons rfl rfl fun x197 y198 h199 e200 f201=>?_)
   obtain⟨s202,A202,n202,c202,rfl,z202⟩:=h199
   have z202:=z202.ext f201
   refine deps_cons rfl rfl fun x203 y204 h205 e206 f207=>?_
   obtain⟨s208,A208,n208,c208,s209,A209,n209,c209,rfl,z208,z209⟩:=h205
   have z208:=z208.ext f207
   have z209:=z209.ext f207
   refine deps_cons rfl rfl fun x210 y211 h212 e213 f214=>?_
   obtain⟨g215,rfl,ge217,hb216⟩:=h212
   have hb216:=hb216.ext f214
   have q218:g24<g215:=Nat.lt_of_lt_of_le (hb27.ext e125).lt ge217
   have ge217:w.heap.size≤g215:=Nat.le_trans hw6.size ge217
   refine deps_nil (so aggTwo hb216 [.bool s208,.slice A208 n208 c208,.bool s209,.slice A209 n209 c209] hw7 ge217 rfl rfl rfl rfl fun v219 hb221 u222 hw8=>(wl_nil (eo_np (eo_then (sr (cl (vs:= [.int .i64 1]) hw8 (g_zint_Of hw8.size (by decide) (by decide)) rfl (by kernel_rfl) fun xr226 v224 r226 e225 hw9=>?_))))))
   obtain⟨s227,A227,n227,c227,rfl,z227⟩:=r226
   refine cl (vs:= [I0]) hw9 (g_zint_Of hw9.size (by decide) (by decide)) rfl (by kernel_rfl) fun xr230 v228 r230 e229 hw10=>?_
   obtain⟨s231,A231,n231,c231,rfl,z231⟩:=r230
   refine pu (v:= .agg #[.bool s227,.slice A227 n227 c227,.bool s231,.slice A231 n231 c231]) rfl (by kernel_rfl) (alq [F0,S0,F0,S0] hw10 (hb221.ext (e225.trans e229)).lt (fun _=>by kernel_rfl) rfl fun g232 v233 hb235 ge236 q237 e234 hw11=>(so aggTwo hb235 [.bool s227,.slice A227 n227 c227,.bool s231,.slice A231 n231 c231] hw11 ge236 rfl rfl rfl rfl fun v238 hb240 u241 hw12=>(ne_ (cw_seq (cw_block ?_)))))
   refine cw_loop (T:=World×Int×Int×Int×Int×ZC×ZC×ZC×ZC)
    (fun⟨wr,r0,r1,m0,m1,k0,k1,k2,k3⟩=> [(2,.pointer (some ⟨g1,0,none⟩)),(3,.pointer (some ⟨g6,0,none⟩)),(4,.pointer (some ⟨g12,0,none⟩)),(5,.pointer (some ⟨g18,0,none⟩)),(6,.pointer (some ⟨g24,0,none⟩)),(7,.pointer (some ⟨g215,0,none⟩)),(8,.pointer (some ⟨g232,0,none⟩))])
    (fun⟨wr,r0,r1,m0,m1,k0,k1,k2,k3⟩=>wr)
    (fun⟨wr,r0,r1,m0,m1,k0,k1,k2,k3⟩=>(Ext w wr)∧(ExtI x y r0 r1 m0 m1)∧(Bk wr g1 27 [.bool sa,.slice Aa na ca])∧(Bk wr g6 27 [.bool sb,.slice Ab nb cb])∧(Bk wr g12 27 [F0,S0])∧(Bk wr g18 27 [F0,S0])∧(Bk wr g24 27 [F0,S0])∧(Bk wr g215 62 [.bool k0.s,.slice k0.A k0.n k0.c,.bool k1.s,.slice k1.A k1.n k1.c])∧(Bk wr g232 62 [.bool k2.s,.slice k2.A k2.n k2.c,.bool k3.s,.slice k3.A k3.n k3.c])∧(Zr wr w.heap.size k0.s k0.A k0.n k0.c r0)∧(Zr wr w.heap.size k1.s k1.A k1.n k1.c r1)∧(Zr wr w.heap.size k2.s k2.A k2.n k2.c m0)∧(Zr wr w.heap.size k3.s k3.A k3.n k3.c m1))
    (fun⟨wr,r0,r1,m0,m1,k0,k1,k2,k3⟩=>r1.natAbs)
    (⟨v238,_,_,_,_,⟨s208,A208,n208,c208⟩,⟨s209,A209,n209,c209⟩,⟨s227,A227,n227,c227⟩,⟨s231,A231,n231,c231⟩⟩:World×Int×Int×Int×Int×ZC×ZC×ZC×ZC) ⟨hw12,ExtI.init h0,((((hb4.ext (e8.trans (e14.trans (e20.trans (e26.trans (e125.trans e180)))))).updN u222 (by omega)).ext (e225.trans (e229.trans e234))).updN u241 (by omega)),((((hb9.ext (e14.trans (e20.trans (e26.trans (e125.trans e180))))).updN u222 (by omega)).ext (e225.trans (e229.trans e234))).updN u241 (by omega)),((((hb15.ext (e20.trans (e26.trans (e125.trans e180)))).updN u222 (by omega)).ext (e225.trans (e229.trans e234))).updN u241 (by omega)),((((hb21.ext (e26.trans (e125.trans e180))).updN u222 (by omega)).ext (e225.trans (e229.trans e234))).updN u241 (by omega)),((((hb27.ext (e125.trans e180)).updN u222 (by omega)).ext (e225.trans (e229.trans e234))).updN u241 (by omega)),((hb221.ext (e225.trans (e229.trans e234))).updN u241 (by omega)),hb240,(((z208.updT hb216 u222).ext (e225.trans (e229.trans e234))).updT hb235 u241),(((z209.updT hb216 u222).ext (e225.trans (e229.trans e234))).updT hb235 u241),((z227.ext (e229.trans e234)).updT hb235 u241),((z231.ext e234).updT hb235 u241)⟩ rfl ⟨rfl,rfl,rfl,rfl,rfl,rfl,rfl,trivial⟩ ?_
   rintro⟨wr,r0,r1,m0,m1,k0,k1,k2,k3⟩ ⟨hw1,hI,b_2,b_3,b_4,b_5,b_6,b_7,b_8,zk0,zk1,zk2,zk3⟩
   refine cw_re [(2,.pointer (some ⟨g1,0,none⟩)),(3,.pointer (some ⟨g6,0,none⟩)),(4,.pointer (some ⟨g12,0,none⟩)),(5,.pointer (some ⟨g18,0,none⟩)),(6,.pointer (some ⟨g24,0,none⟩)),(7,.pointer (some ⟨g215,0,none⟩)),(8,.pointer (some ⟨g232,0,none⟩))] wr rfl ⟨rfl,rfl,rfl,rfl,rfl,rfl,rfl,trivial⟩ ?_
   have Lr0:ln r0≤17179869184:=ln_max hI.b0 Lx Ly
   have Lr1:ln r1≤17179869184:=Nat.le_trans (ln_mono hI.b1) Ly
   have Lm0:ln m0≤17179869184:=Nat.le_trans (ln_mono hI.mb0) Ly
   have Lm1:ln m1≤17179869184:=Nat.le_trans (ln_mono hI.mb1) Ly
   refine cw_seq (cw_seq ?_)
   by_cases hr:r1=0
   · 
    have hI0:ExtI x y r0 0 m0 m1:=hr▸hI
    refine cw_region (pf g215 2 rfl (by kernel_rfl) (lo aggInt b_7 [.bool k1.s,.slice k1.A k1.n k1.c] rfl rfl rfl (cl (vs:= [.agg #[.bool k1.s,.slice k1.A k1.n k1.c]]) hw1 (g_zint_Sign zk1.zi (zk1.le (lx_ Lr1 rfl))) rfl (by kernel_rfl) fun xr245 v243 r245 e244 hw2=>?_)))
    obtain rfl:=r245
    refine wl_cmp rfl rfl rfl false (scmp_ne_f hr) (by decide) (ne_ (cw_false rfl (cw_exit (eo_thenX (eo_loopX (eo_block_here (eo_then (cw_seq (cw_keep [(2,.pointer (some ⟨g1,0,none⟩)),(3,.pointer (some ⟨g6,0,none⟩)),(4,.pointer (some ⟨g12,0,none⟩)),(5,.pointer (some ⟨g18,0,none⟩)),(6,.pointer (some ⟨g24,0,none⟩)),(7,.pointer (some ⟨g215,0,none⟩)),(8,.pointer (some ⟨g232,0,none⟩)),(32,.pointer (some ⟨g215,2,none⟩)),(33,.agg #[.bool k1.s,.slice k1.A k1.n k1.c]),(34,.int .i64 (scmp r1 0)),(35,.bool false)] ⟨rfl,rfl,rfl,rfl,rfl,rfl,rfl,rfl,rfl,rfl,rfl,trivial⟩ ?_)))))))))
    obtain⟨v246,hv,e247⟩:∃v,v=v243.drew∧Ext v243 v:=⟨_,rfl,(Ext.refl _).drew⟩
    have hw3:=hw2.trans e247
    have hb249:=(b_4.ext (e244.trans e247))
    obtain⟨v248,hr253,hb250,u251,hs252⟩:=run_stored (P:=Tryz.prog) (us:= [.bool k0.s,.slice k0.A k0.n k0.c]) (off:=0) aggInt rfl hb249 (bq rfl) rfl [.bool k0.s,.slice k0.A k0.n k0.c] rfl
    have hw4:=u251.ext hw3 ge16
    have hb255:=((b_5.ext (e244.trans e247)).updN u251 (by omega))
    obtain⟨v254,hr259,hb256,u257,hs258⟩:=run_stored (P:=Tryz.prog) (us:= [.bool k2.s,.slice k2.A k2.n k2.c]) (off:=0) aggInt rfl hb255 (bq rfl) rfl [.bool k2.s,.slice k2.A k2.n k2.c] rfl
    have hw5:=u257.ext hw4 ge22
    refine cw_det mix (w:=v246) [.pointer (some ⟨g215,0,none⟩),.agg #[.bool k0.s,.slice k0.A k0.n k0.c],.pointer (some ⟨g232,0,none⟩),.agg #[.bool k2.s,.slice k2.A k2.n k2.c],undef,undef] [v246,v248,v254] [4,5] [[],[0],[],[2],[1],[3]] [[],[0],[],[2],[0,1],[0,1,2,3,4]] [(0,0),(1,0),(2,0),(2,1),(3,0),(3,1),(4,0),(5,1)] rfl hv ?_ ?_
    · 
     refine dobs_val _ rfl rfl rfl rfl rfl (rd_pure rfl (by kernel_rfl)) (dobs_val _ rfl rfl rfl rfl rfl (rd_load rfl (load_agg aggInt (b_7.ext (e244.trans e247)) [.bool k0.s,.slice k0.A k0.n k0.c] rfl (bq rfl) rfl)) (dobs_val _ rfl rfl rfl rfl rfl (rd_pure rfl (by kernel_rfl)) (dobs_val _ rfl rfl rfl rfl rfl (rd_pure rfl (by kernel_rfl)) (dobs_val _ rfl rfl rfl rfl rfl (rd_load rfl (load_agg aggInt (b_8.ext (e244.trans e247)) [.bool k2.s,.slice k2.A k2.n k2.c] rfl (bq rfl) rfl)) (dobs_val _ rfl rfl rfl rfl rfl (rd_load rfl (load_agg aggInt ((b_8.ext (e244.trans e247)).updN u251 (by omega)) [.bool k2.s,.slice k2.A k2.n k2.c] rfl (bq rfl) rfl)) (dobs_sto _ rfl rfl rfl rfl rfl (rd_store rfl rfl hr253) (dobs_sto _ rfl rfl rfl rfl rfl (rd_store rfl rfl hr259) ?_)))))))
     exact dobs_nil
    clear hv
    refine eo_keep [(2,.pointer (some ⟨g1,0,none⟩)),(3,.pointer (some ⟨g6,0,none⟩)),(4,.pointer (some ⟨g12,0,none⟩)),(5,.pointer (some ⟨g18,0,none⟩)),(6,.pointer (some ⟨g24,0,none⟩)),(7,.pointer (some ⟨g215,0,none⟩)),(8,.pointer (some ⟨g232,0,none⟩)),(32,.pointer (some ⟨g215,2,none⟩)),(33,.agg #[.bool k1.s,.slice k1.A k1.n k1.c]),(34,.int .i64 (scmp r1 0)),(35,.bool false),(60,.pointer (some ⟨g215,0,none⟩)),(61,.agg #[.bool k0.s,.slice k0.A k0.n k0.c]),(62,.pointer (some ⟨g232,0,none⟩)),(63,.agg #[.bool k2.s,.slice k2.A k2.n k2.c])] ⟨rfl,rfl,rfl,rfl,rfl,rfl,rfl,rfl,rfl,rfl,rfl,rfl,rfl,rfl,rfl,trivial⟩ (eo_then (cw_seq (cw_seq ?_)))
    by_cases hx0:x<0
    · 
     have HD:=hI0.done h0 (z:= -m0) (by rw [if_pos hx0])
     refine cw_region (lo aggInt (((b_2.ext (e244.trans e247)).updN u251 (by omega)).updN u257 (by omega)) [.bool sa,.slice Aa na ca] rfl rfl rfl (cl (vs:= [.agg #[.bool sa,.slice Aa na ca]]) hw5 (g_zint_Sign (hx.ext hw5) (lx_ la rfl)) rfl (by kernel_rfl) fun xr262 v260 r262 e261 hw6=>?_))
     obtain rfl:=r262
     refine wl_cmp rfl rfl rfl true (scmp_lt_t hx0) (by decide) (ne_ (cw_true rfl (cw_region (lo aggInt (hb256.ext e261) [.bool k2.s,.slice k2.A k2.n k2.c] rfl rfl rfl ?_))))
     have L263:ln (-m0)≤17179869184:=(by rw [ln_neg];exact Lm0)
     refine cl (vs:= [.agg #[.bool k2.s,.slice k2.A k2.n k2.c]]) hw6 (g_zint_Neg hw6.size ((((zk2.ext (e244.trans e247)).updT hb249 u251).updT hb255 u257).ext e261).zi (zk2.le (lx_ Lm0 rfl))) rfl (by kernel_rfl) fun xr266 v264 r266 e265 hw7=>?_
     obtain⟨s267,A267,n267,c267,rfl,z267⟩:=r266
     have hb269:=(hb256.ext (e261.trans e265))
     refine so aggInt hb269 [.bool s267,.slice A267 n267 c267] hw7 ge22 rfl rfl rfl rfl fun v268 hb270 u271 hw8=>(ne_ (sr (lo aggInt (((((b_3.ext (e244.trans e247)).updN u251 (by omega)).updN u257 (by omega)).ext (e261.trans e265)).updN u271 (by omega)) [.bool sb,.slice Ab nb cb] rfl rfl rfl (lo aggInt (((hb250.updN u257 (by omega)).ext (e261.trans e265)).updN u271 (by omega)) [.bool k0.s,.slice k0.A k0.n k0.c] rfl rfl rfl ?_))))
     have L273:ln (y.tdiv r0)≤17179869184:=Nat.le_trans (ln_tdiv _ _) Ly
     refine cl (vs:= [.agg #[.bool sb,.slice Ab nb cb],.agg #[.bool k0.s,.slice k0.A k0.n k0.c]]) hw8 (g_zint_Exact_ok hw8.size (hy.ext hw8) (lx_ lb rfl) (((((zk0.ext (e244.trans e247)).updT hb249 u251).updT hb255 u257).ext (e261.trans e265)).updT hb269 u271).zi (zk0.le (lx_ Lr0 rfl)) HD.2.1 HD.2.2.2.1) rfl (by kernel_rfl) fun xr276 v274 r276 e275 hw9=>?_
     obtain⟨_,_,rfl,⟨s278,A278,n278,c278,rfl,z278⟩,rfl⟩:=r276
     refine mv 1 rfl (pu (v:= .agg #[.bool s278,.slice A278 n278 c278]) rfl (by kernel_rfl) (pu (v:= .int .i64 0) rfl (by kernel_rfl) (alq [F0,S0] hw9 ((((((b_8.ext (e244.trans e247)).updN u251 (by omega)).updN u257 (by omega)).ext (e261.trans e265)).updN u271 (by omega)).ext e275).lt (fun _=>by kernel_rfl) rfl fun g279 v280 hb282 ge283 q284 e281 hw10=>(so aggInt hb282 [.bool s278,.slice A278 n278 c278] hw10 ge283 rfl rfl rfl rfl fun v285 hb287 u288 hw11=>(mv 1 rfl (ne_ (sr (lo aggInt ((hb270.ext (e275.trans e281)).updN u288 (by omega)) [.bool s267,.slice A267 n267 c267] rfl rfl rfl (lo aggInt hb287 [.bool s278,.slice A278 n278 c278] rfl rfl rfl ?_)))))))))
     have L290:ln ((-m0)%(y.tdiv r0))≤17179869184:=Nat.le_trans (ln_emod HD.2.2.1) L273
     refine cl (vs:= [.agg #[.bool s267,.slice A267 n267 c267],.agg #[.bool s278,.slice A278 n278 c278]]) hw11 (g_zint_Mod hw11.size (((z267.updT hb269 u271).ext (e275.trans e281)).updT hb282 u288).zi (z267.le (lx_ L263 rfl)) ((z278.ext e281).updT hb282 u288).zi (z278.le (lx_ L273 rfl)) HD.2.2.1) rfl (by kernel_rfl) fun xr293 v291 r293 e292 hw12=>?_
     obtain⟨_,_,rfl,⟨s295,A295,n295,c295,rfl,z295⟩,rfl⟩:=r293
     refine mv 1 rfl (pu (v:= .agg #[.bool s295,.slice A295 n295 c295]) rfl (by kernel_rfl) (pu (v:= .int .i64 0) rfl (by kernel_rfl) ?_))
     have hb297:=(((hb270.ext (e275.trans e281)).updN u288 (by omega)).ext e292)
     refine so aggInt hb297 [.bool s295,.slice A295 n295 c295] hw12 ge22 rfl rfl rfl rfl fun v296 hb298 u299 hw13=>(ne_ (cw_seq ?_))
     have L301:ln (x*((-m0)%(y.tdiv r0)))≤34359738368:=Nat.le_trans (ln_mul Lx L290) (by decide)
     have L303:ln (r0-(x*((-m0)%(y.tdiv r0))))≤34359738369:=Nat.le_trans (ln_sub Lr0 L301) (by decide)
     have L305:ln ((r0-(x*((-m0)%(y.tdiv r0)))).tdiv y)≤34359738369:=Nat.le_trans (ln_tdiv _ _) L303
     refine cw_draw mix 10 [8,9] [Is (.agg #[.bool k0.s,.slice k0.A k0.n k0.c]),Is (.agg #[.bool sa,.slice Aa na ca]),Is (.agg #[.bool s295,.slice A295 n295 c295]),ZR w.heap.size (x*((-m0)%(y.tdiv r0))),ZR w.heap.size (r0-(x*((-m0)%(y.tdiv r0)))),Is (.agg #[.bool sb,.slice Ab nb cb]),T2 (ZR w.heap.size ((r0-(x*((-m0)%(y.tdiv r0)))).tdiv y)) (Is (.int .i64 0)),T2 (ZR w.heap.size ((r0-(x*((-m0)%(y.tdiv r0)))).tdiv y)) (Is (.int .i64 0)),ZR w.heap.size ((r0-(x*((-m0)%(y.tdiv r0)))).tdiv y),Is (.int .i64 0)] [[],[],[],[1,2],[0,3],[],[4,5],[6],[7],[7]] [[],[],[],[1,2],[0,1,2,3],[],[0,1,2,3,4,5],[0,1,2,3,4,5,6],[0,1,2,3,4,5,6,7],[0,1,2,3,4,5,6,7],[0,1,2,3,4,5,6,7,8]] rfl
      (obs_cons rfl rfl (hob rfl rfl ?_) (obs_cons rfl rfl (hob rfl rfl ?_) (obs_cons rfl rfl (hob rfl rfl ?_) (obs_cons rfl rfl (hob rfl rfl ?_) (obs_cons rfl rfl (hob rfl rfl ?_) (obs_cons rfl rfl (hob rfl rfl ?_) (obs_cons rfl rfl (hob rfl rfl ?_) (obs_cons rfl rfl (hob rfl rfl ?_) (obs_float rfl rfl (fob rfl ?_) (obs_float rfl rfl (fob rfl ?_) obs_nil)))))))))) ?_
     · 
      exact fun _ e312=>deps_nil (lo aggInt ((((((((hb250.updN u257 (by omega)).ext (e261.trans e265)).updN u271 (by omega)).ext (e275.trans e281)).updN u288 (by omega)).ext e292).updN u299 (by omega)).ext e312) [.bool k0.s,.slice k0.A k0.n k0.c] rfl rfl rfl (pi_done rfl (Ext.refl _) rfl))
     · 
      exact fun _ e314=>deps_nil (lo aggInt ((((((((((b_2.ext (e244.trans e247)).updN u251 (by omega)).updN u257 (by omega)).ext (e261.trans e265)).updN u271 (by omega)).ext (e275.trans e281)).updN u288 (by omega)).ext e292).updN u299 (by omega)).ext e314) [.bool sa,.slice Aa na ca] rfl rfl rfl (pi_done rfl (Ext.refl _) rfl))
     · 
      exact fun _ e316=>deps_nil (lo aggInt (hb298.ext e316) [.bool s295,.slice A295 n295 c295] rfl rfl rfl (pi_done rfl (Ext.refl _) rfl))
     · 
      intro v317 e318
      have hw14:=hw13.trans e318
      refine dk rfl rfl (dk rfl rfl (deps_nil ?_))
      have L329:ln (x*((-m0)%(y.tdiv r0)))≤34359738368:=Nat.le_trans (ln_mul Lx L290) (by decide)
      refine cl (vs:= [.agg #[.bool sa,.slice Aa na ca],.agg #[.bool s295,.slice A295 n295 c295]]) hw14 (g_zint_Mul hw14.size (hx.ext hw14) (lx_ la rfl) ((z295.updT hb297 u299).ext e318).zi (z295.le (lx_ L290 rfl))) rfl (by kernel_rfl) fun xr332 v330 r332 e331 hw15=>?_
      obtain⟨s333,A333,n333,c333,rfl,z333⟩:=r332
      exact pi_done rfl e331 ⟨_,_,_,_,rfl,z333⟩
     · 
      intro v334 e335
      have hw14:=hw13.trans e335
      refine dk rfl rfl (deps_cons rfl rfl fun x341 y342 h343 e344 f345=>?_)
      obtain⟨s346,A346,n346,c346,rfl,z346⟩:=h343
      have z346:=z346.ext f345
      refine deps_nil ?_
      have L347:ln (r0-(x*((-m0)%(y.tdiv r0))))≤34359738369:=Nat.le_trans (ln_sub Lr0 L301) (by decide)
      refine cl (vs:= [.agg #[.bool k0.s,.slice k0.A k0.n k0.c],.agg #[.bool s346,.slice A346 n346 c346]]) hw14 (g_zint_Sub hw14.size ((((((((((zk0.ext (e244.trans e247)).updT hb249 u251).updT hb255 u257).ext (e261.trans e265)).updT hb269 u271).ext (e275.trans e281)).updT hb282 u288).ext e292).updT hb297 u299).ext e335).zi (zk0.le (lx_ Lr0 rfl)) z346.zi (z346.le (lx_ L301 rfl))) rfl (by kernel_rfl) fun xr350 v348 r350 e349 hw15=>?_
      obtain⟨s351,A351,n351,c351,rfl,z351⟩:=r350
      exact pi_done rfl e349 ⟨_,_,_,_,rfl,z351⟩
     · 
      exact fun _ e353=>deps_nil (lo aggInt ((((((((((b_3.ext (e244.trans e247)).updN u251 (by omega)).updN u257 (by omega)).ext (e261.trans e265)).updN u271 (by omega)).ext (e275.trans e281)).updN u288 (by omega)).ext e292).updN u299 (by omega)).ext e353) [.bool sb,.slice Ab nb cb] rfl rfl rfl (pi_done rfl (Ext.refl _) rfl))
     · 
      intro v354 e355
      have hw14:=hw13.trans e355
      refine deps_cons rfl rfl fun x356 y357 h358 e359 f360=>?_
      obtain⟨s361,A361,n361,c361,rfl,z361⟩:=h358
      have z361:=z361.ext f360
      refine dk rfl rfl (deps_nil ?_)
      have L367:ln ((r0-(x*((-m0)%(y.tdiv r0)))).tdiv y)≤34359738369:=Nat.le_trans (ln_tdiv _ _) L303
      refine cl (vs:= [.agg #[.bool s361,.slice A361 n361 c361],.agg #[.bool sb,.slice Ab nb cb]]) hw14 (g_zint_Exact_ok hw14.size z361.zi (z361.le (lx_ L303 rfl)) (hy.ext hw14) (lx_ lb rfl) h0 HD.2.2.2.2.1) rfl (by kernel_rfl) fun xr370 v368 r370 e369 hw15=>?_
      obtain⟨_,_,rfl,⟨s372,A372,n372,c372,rfl,z372⟩,rfl⟩:=r370
      exact pi_done rfl e369 ⟨_,_,rfl,⟨_,_,_,_,rfl,z372⟩,rfl⟩
     · 
      intro v373 e374
      refine deps_cons rfl rfl fun x375 y376 h377 e378 f379=>?_
      obtain⟨_,_,rfl,⟨s381,A381,n381,c381,rfl,z381⟩,rfl⟩:=h377
      have z381:=z381.ext f379
      refine deps_nil (mv 1 rfl ?_)
      exact pi_done rfl (Ext.refl _) ⟨_,_,rfl,⟨_,_,_,_,rfl,z381⟩,rfl⟩
     · 
      intro v382 e383
      refine deps_cons rfl rfl fun x384 y385 h386 e387 f388=>?_
      obtain⟨_,_,rfl,⟨s390,A390,n390,c390,rfl,z390⟩,rfl⟩:=h386
      have z390:=z390.ext f388
      refine deps_nil ?_
      exact⟨.agg #[.bool s390,.slice A390 n390 c390],rfl,rfl,fun _=>by kernel_rfl,⟨_,_,_,_,rfl,z390⟩⟩
     · 
      intro v391 e392
      refine deps_cons rfl rfl fun x393 y394 h395 e396 f397=>?_
      obtain⟨_,_,rfl,⟨s399,A399,n399,c399,rfl,z399⟩,rfl⟩:=h395
      have z399:=z399.ext f397
      refine deps_nil ?_
      exact⟨.int .i64 0,rfl,rfl,fun _=>by kernel_rfl,rfl⟩
     · 
      intro v400 e401
      have hw14:=hw13.trans e401
      refine dk rfl rfl (dk rfl rfl (dk rfl rfl (deps_cons rfl rfl fun x417 y418 h419 e420 f421=>?_)))
      obtain⟨s422,A422,n422,c422,rfl,z422⟩:=h419
      have z422:=z422.ext f421
      refine deps_cons rfl rfl fun x423 y424 h425 e426 f427=>?_
      obtain⟨s428,A428,n428,c428,rfl,z428⟩:=h425
      have z428:=z428.ext f427
      refine dk rfl rfl (deps_cons rfl rfl fun x434 y435 h436 e437 f438=>?_)
      obtain⟨_,_,rfl,⟨s440,A440,n440,c440,rfl,z440⟩,rfl⟩:=h436
      have z440:=z440.ext f438
      refine deps_cons rfl rfl fun x441 y442 h443 e444 f445=>?_
      obtain⟨_,_,rfl,⟨s447,A447,n447,c447,rfl,z447⟩,rfl⟩:=h443
      have z447:=z447.ext f445
      refine deps_cons rfl rfl fun x448 y449 h450 e451 f452=>?_
      obtain⟨s453,A453,n453,c453,rfl,z453⟩:=h450
      have z453:=z453.ext f452
      refine dk rfl rfl (deps_nil ?_)
      have hb460:=((((((((((b_6.ext (e244.trans e247)).updN u251 (by omega)).updN u257 (by omega)).ext (e261.trans e265)).updN u271 (by omega)).ext (e275.trans e281)).updN u288 (by omega)).ext e292).updN u299 (by omega)).ext e401)
      refine so aggInt hb460 [.bool s453,.slice A453 n453 c453] hw14 ge28 rfl rfl rfl rfl fun v459 hb461 u462 hw15=>(wl_nil (eo_np (eo_then (cw_seq (cw_keep [(2,.pointer (some ⟨g1,0,none⟩)),(3,.pointer (some ⟨g6,0,none⟩)),(4,.pointer (some ⟨g12,0,none⟩)),(5,.pointer (some ⟨g18,0,none⟩)),(6,.pointer (some ⟨g24,0,none⟩)),(7,.pointer (some ⟨g215,0,none⟩)),(8,.pointer (some ⟨g232,0,none⟩)),(32,.pointer (some ⟨g215,2,none⟩)),(33,.agg #[.bool k1.s,.slice k1.A k1.n k1.c]),(34,.int .i64 (scmp r1 0)),(35,.bool false),(60,.pointer (some ⟨g215,0,none⟩)),(61,.agg #[.bool k0.s,.slice k0.A k0.n k0.c]),(62,.pointer (some ⟨g232,0,none⟩)),(63,.agg #[.bool k2.s,.slice k2.A k2.n k2.c]),(64,.agg #[.bool sa,.slice Aa na ca]),(65,.int .i64 (scmp x 0)),(66,.bool true),(67,.agg #[.bool k2.s,.slice k2.A k2.n k2.c]),(68,.agg #[.bool s267,.slice A267 n267 c267]),(70,.agg #[.bool sb,.slice Ab nb cb]),(71,.agg #[.bool k0.s,.slice k0.A k0.n k0.c]),(72,.tuple #[.agg #[.bool s278,.slice A278 n278 c278],I0]),(69,.tuple #[.agg #[.bool s278,.slice A278 n278 c278],I0]),(73,.agg #[.bool s278,.slice A278 n278 c278]),(74,.int .i64 0),(13,.pointer (some ⟨g279,0,none⟩)),(14,.int .i64 0),(76,.agg #[.bool s267,.slice A267 n267 c267]),(77,.agg #[.bool s278,.slice A278 n278 c278]),(78,.tuple #[.agg #[.bool s295,.slice A295 n295 c295],I0]),(75,.tuple #[.agg #[.bool s295,.slice A295 n295 c295],I0]),(79,.agg #[.bool s295,.slice A295 n295 c295]),(80,.int .i64 0),(82,.agg #[.bool k0.s,.slice k0.A k0.n k0.c]),(83,.agg #[.bool sa,.slice Aa na ca]),(84,.agg #[.bool s295,.slice A295 n295 c295]),(85,.agg #[.bool s422,.slice A422 n422 c422]),(86,.agg #[.bool s428,.slice A428 n428 c428]),(87,.agg #[.bool sb,.slice Ab nb cb]),(88,.tuple #[.agg #[.bool s440,.slice A440 n440 c440],I0]),(81,.tuple #[.agg #[.bool s447,.slice A447 n447 c447],I0]),(89,.agg #[.bool s453,.slice A453 n453 c453]),(90,.int .i64 0)] ⟨rfl,rfl,rfl,rfl,rfl,rfl,rfl,rfl,rfl,rfl,rfl,rfl,rfl,rfl,rfl,rfl,rfl,rfl,rfl,rfl,rfl,rfl,rfl,rfl,rfl,rfl,rfl,rfl,rfl,rfl,rfl,rfl,rfl,rfl,rfl,rfl,rfl,rfl,rfl,rfl,rfl,rfl,rfl,rfl,trivial⟩ ?_)))))
      obtain⟨v464,hv,e465⟩:∃v,v=v459.drew∧Ext v459 v:=⟨_,rfl,(Ext.refl _).drew⟩
      have hw16:=hw15.trans e465
      have hb467:=((((((((((hb250.updN u257 (by omega)).ext (e261.trans e265)).updN u271 (by omega)).ext (e275.trans e281)).updN u288 (by omega)).ext e292).updN u299 (by omega)).ext e401).updN u462 (by omega)).ext e465)
      obtain⟨v466,hr471,hb468,u469,hs470⟩:=run_stored (P:=Tryz.prog) (us:= [.bool k0.s,.slice k0.A k0.n k0.c]) (off:=0) aggInt rfl hb467 (bq rfl) rfl [.bool k0.s,.slice k0.A k0.n k0.c] rfl
      have hw17:=u469.ext hw16 ge16
      have hb473:=((((hb298.ext e401).updN u462 (by omega)).ext e465).updN u469 (by omega))
      obtain⟨v472,hr477,hb474,u475,hs476⟩:=run_stored (P:=Tryz.prog) (us:= [.bool s295,.slice A295 n295 c295]) (off:=0) aggInt rfl hb473 (bq rfl) rfl [.bool s295,.slice A295 n295 c295] rfl
      have hw18:=u475.ext hw17 ge22
      have hb479:=(((hb461.ext e465).updN u469 (by omega)).updN u475 (by omega))
      obtain⟨v478,hr483,hb480,u481,hs482⟩:=run_stored (P:=Tryz.prog) (us:= [.bool s453,.slice A453 n453 c453]) (off:=0) aggInt rfl hb479 (bq rfl) rfl [.bool s453,.slice A453 n453 c453] rfl
      have hw19:=u481.ext hw18 ge28
      refine cw_det mix (w:=v464) [.agg #[.bool k0.s,.slice k0.A k0.n k0.c],.agg #[.bool s295,.slice A295 n295 c295],.agg #[.bool s453,.slice A453 n453 c453],undef,undef,undef] [v464,v466,v472,v478] [3,4,5] [[],[],[],[0],[1],[2]] [[],[],[],[0],[0,1,3],[0,1,2,3,4]] [(0,0),(1,0),(1,1),(2,0),(2,1),(2,2),(3,0),(4,1),(5,2)] rfl hv ?_ ?_
      · 
       refine dobs_val _ rfl rfl rfl rfl rfl (rd_load rfl (load_agg aggInt ((((((((((hb250.updN u257 (by omega)).ext (e261.trans e265)).updN u271 (by omega)).ext (e275.trans e281)).updN u288 (by omega)).ext e292).updN u299 (by omega)).ext e401).updN u462 (by omega)).ext e465) [.bool k0.s,.slice k0.A k0.n k0.c] rfl (bq rfl) rfl)) (dobs_val _ rfl rfl rfl rfl rfl (rd_load rfl (load_agg aggInt (((hb298.ext e401).updN u462 (by omega)).ext e465) [.bool s295,.slice A295 n295 c295] rfl (bq rfl) rfl)) (dobs_val _ rfl rfl rfl rfl rfl (rd_load rfl (load_agg aggInt ((((hb298.ext e401).updN u462 (by omega)).ext e465).updN u469 (by omega)) [.bool s295,.slice A295 n295 c295] rfl (bq rfl) rfl)) (dobs_val _ rfl rfl rfl rfl rfl (rd_load rfl (load_agg aggInt (hb461.ext e465) [.bool s453,.slice A453 n453 c453] rfl (bq rfl) rfl)) (dobs_val _ rfl rfl rfl rfl rfl (rd_load rfl (load_agg aggInt ((hb461.ext e465).updN u469 (by omega)) [.bool s453,.slice A453 n453 c453] rfl (bq rfl) rfl)) (dobs_val _ rfl rfl rfl rfl rfl (rd_load rfl (load_agg aggInt (((hb461.ext e465).updN u469 (by omega)).updN u475 (by omega)) [.bool s453,.slice A453 n453 c453] rfl (bq rfl) rfl)) (dobs_sto _ rfl rfl rfl rfl rfl (rd_store rfl rfl hr471) (dobs_sto _ rfl rfl rfl rfl rfl (rd_store rfl rfl hr477) (dobs_sto _ rfl rfl rfl rfl rfl (rd_store rfl rfl hr483) ?_))))))))
       exact dobs_nil
      clear hv
      refine eo_keep [(2,.pointer (some ⟨g1,0,none⟩)),(3,.pointer (some ⟨g6,0,none⟩)),(4,.pointer (some ⟨g12,0,none⟩)),(5,.pointer (some ⟨g18,0,none⟩)),(6,.pointer (some ⟨g24,0,none⟩)),(7,.pointer (some ⟨g215,0,none⟩)),(8,.pointer (some ⟨g232,0,none⟩)),(32,.pointer (some ⟨g215,2,none⟩)),(33,.agg #[.bool k1.s,.slice k1.A k1.n k1.c]),(34,.int .i64 (scmp r1 0)),(35,.bool false),(60,.pointer (some ⟨g215,0,none⟩)),(61,.agg #[.bool k0.s,.slice k0.A k0.n k0.c]),(62,.pointer (some ⟨g232,0,none⟩)),(63,.agg #[.bool k2.s,.slice k2.A k2.n k2.c]),(64,.agg #[.bool sa,.slice Aa na ca]),(65,.int .i64 (scmp x 0)),(66,.bool true),(67,.agg #[.bool k2.s,.slice k2.A k2.n k2.c]),(68,.agg #[.bool s267,.slice A267 n267 c267]),(70,.agg #[.bool sb,.slice Ab nb cb]),(71,.agg #[.bool k0.s,.slice k0.A k0.n k0.c]),(72,.tuple #[.agg #[.bool s278,.slice A278 n278 c278],I0]),(69,.tuple #[.agg #[.bool s278,.slice A278 n278 c278],I0]),(73,.agg #[.bool s278,.slice A278 n278 c278]),(74,.int .i64 0),(13,.pointer (some ⟨g279,0,none⟩)),(14,.int .i64 0),(76,.agg #[.bool s267,.slice A267 n267 c267]),(77,.agg #[.bool s278,.slice A278 n278 c278]),(78,.tuple #[.agg #[.bool s295,.slice A295 n295 c295],I0]),(75,.tuple #[.agg #[.bool s295,.slice A295 n295 c295],I0]),(79,.agg #[.bool s295,.slice A295 n295 c295]),(80,.int .i64 0),(82,.agg #[.bool k0.s,.slice k0.A k0.n k0.c]),(83,.agg #[.bool sa,.slice Aa na ca]),(84,.agg #[.bool s295,.slice A295 n295 c295]),(85,.agg #[.bool s422,.slice A422 n422 c422]),(86,.agg #[.bool s428,.slice A428 n428 c428]),(87,.agg #[.bool sb,.slice Ab nb cb]),(88,.tuple #[.agg #[.bool s440,.slice A440 n440 c440],I0]),(81,.tuple #[.agg #[.bool s447,.slice A447 n447 c447],I0]),(89,.agg #[.bool s453,.slice A453 n453 c453]),(90,.int .i64 0),(91,.agg #[.bool k0.s,.slice k0.A k0.n k0.c]),(92,.agg #[.bool s295,.slice A295 n295 c295]),(93,.agg #[.bool s453,.slice A453 n453 c453])] ⟨rfl,rfl,rfl,rfl,rfl,rfl,rfl,rfl,rfl,rfl,rfl,rfl,rfl,rfl,rfl,rfl,rfl,rfl,rfl,rfl,rfl,rfl,rfl,rfl,rfl,rfl,rfl,rfl,rfl,rfl,rfl,rfl,rfl,rfl,rfl,rfl,rfl,rfl,rfl,rfl,rfl,rfl,rfl,rfl,rfl,rfl,rfl,trivial⟩ (eo_then (cw_ret (eo_ret [.agg #[.bool k0.s,.slice k0.A k0.n k0.c],.agg #[.bool s295,.slice A295 n295 c295],.agg #[.bool s453,.slice A453 n453 c453]] rfl ⟨⟨_,rfl,load_agg aggInt ((hb468.updN u475 (by omega)).updN u481 (by omega)) [.bool k0.s,.slice k0.A k0.n k0.c] rfl (bq rfl) rfl⟩,⟨_,rfl,load_agg aggInt (hb474.updN u481 (by omega)) [.bool s295,.slice A295 n295 c295] rfl (bq rfl) rfl⟩,⟨_,rfl,load_agg aggInt hb480 [.bool s453,.slice A453 n453 c453] rfl (bq rfl) rfl⟩,trivial⟩ ?_)))
      exact⟨_,_,HD.2.2.2.2.2,_,rfl,⟨_,_,_,rfl,⟨_,_,_,_,rfl,((((((((((((((((zk0.ext (e244.trans e247)).updT hb249 u251).updT hb255 u257).ext (e261.trans e265)).updT hb269 u271).ext (e275.trans e281)).updT hb282 u288).ext e292).updT hb297 u299).ext e401).updT hb460 u462).ext e465).updT hb467 u469).updT hb473 u475).updT hb479 u481)).cast HD.1⟩,⟨_,_,_,_,rfl,(((((((z295.updT hb297 u299).ext e401).updT hb460 u462).ext e465).updT hb467 u469).updT hb473 u475).updT hb479 u481)⟩,⟨_,_,_,_,rfl,(((((z453.updT hb460 u462).ext e465).updT hb467 u469).updT hb473 u475).updT hb479 u481)⟩⟩,hw19⟩
    · 
     have HD:=hI0.done h0 (z:=m0) (by rw [if_neg hx0])
     refine cw_region (lo aggInt (((b_2.ext (e244.trans e247)).updN u251 (by omega)).updN u257 (by omega)) [.bool sa,.slice Aa na ca] rfl rfl rfl (cl (vs:= [.agg #[.bool sa,.slice Aa na ca]]) hw5 (g_zint_Sign (hx.ext hw5) (lx_ la rfl)) rfl (by kernel_rfl) fun xr486 v484 r486 e485 hw6=>?_))
     obtain rfl:=r486
     refine wl_cmp rfl rfl rfl false (scmp_lt_f (by omega)) (by decide) (ne_ (cw_false rfl (cw_skip (eo_then (sr (lo aggInt ((((b_3.ext (e244.trans e247)).updN u251 (by omega)).updN u257 (by omega)).ext e485) [.bool sb,.slice Ab nb cb] rfl rfl rfl (lo aggInt ((hb250.updN u257 (by omega)).ext e485) [.bool k0.s,.slice k0.A k0.n k0.c] rfl rfl rfl ?_)))))))
     have L487:ln (y.tdiv r0)≤17179869184:=Nat.le_trans (ln_tdiv _ _) Ly
     refine cl (vs:= [.agg #[.bool sb,.slice Ab nb cb],.agg #[.bool k0.s,.slice k0.A k0.n k0.c]]) hw6 (g_zint_Exact_ok hw6.size (hy.ext hw6) (lx_ lb rfl) ((((zk0.ext (e244.trans e247)).updT hb249 u251).updT hb255 u257).ext e485).zi (zk0.le (lx_ Lr0 rfl)) HD.2.1 HD.2.2.2.1) rfl (by kernel_rfl) fun xr490 v488 r490 e489 hw7=>?_
     obtain⟨_,_,rfl,⟨s492,A492,n492,c492,rfl,z492⟩,rfl⟩:=r490
     refine mv 1 rfl (pu (v:= .agg #[.bool s492,.slice A492 n492 c492]) rfl (by kernel_rfl) (pu (v:= .int .i64 0) rfl (by kernel_rfl) (alq [F0,S0] hw7 ((((b_8.ext (e244.trans e247)).updN u251 (by omega)).updN u257 (by omega)).ext (e485.trans e489)).lt (fun _=>by kernel_rfl) rfl fun g493 v494 hb496 ge497 q498 e495 hw8=>(so aggInt hb496 [.bool s492,.slice A492 n492 c492] hw8 ge497 rfl rfl rfl rfl fun v499 hb501 u502 hw9=>(mv 1 rfl (ne_ (sr (lo aggInt ((hb256.ext (e485.trans (e489.trans e495))).updN u502 (by omega)) [.bool k2.s,.slice k2.A k2.n k2.c] rfl rfl rfl (lo aggInt hb501 [.bool s492,.slice A492 n492 c492] rfl rfl rfl ?_)))))))))
     have L504:ln (m0%(y.tdiv r0))≤17179869184:=Nat.le_trans (ln_emod HD.2.2.1) L487
     refine cl (vs:= [.agg #[.bool k2.s,.slice k2.A k2.n k2.c],.agg #[.bool s492,.slice A492 n492 c492]]) hw9 (g_zint_Mod hw9.size (((((zk2.ext (e244.trans e247)).updT hb249 u251).updT hb255 u257).ext (e485.trans (e489.trans e495))).updT hb496 u502).zi (zk2.le (lx_ Lm0 rfl)) ((z492.ext e495).updT hb496 u502).zi (z492.le (lx_ L487 rfl)) HD.2.2.1) rfl (by kernel_rfl) fun xr507 v505 r507 e506 hw10=>?_
     obtain⟨_,_,rfl,⟨s509,A509,n509,c509,rfl,z509⟩,rfl⟩:=r507
     refine mv 1 rfl (pu (v:= .agg #[.bool s509,.slice A509 n509 c509]) rfl (by kernel_rfl) (pu (v:= .int .i64 0) rfl (by kernel_rfl) ?_))
     have hb511:=(((hb256.ext (e485.trans (e489.trans e495))).updN u502 (by omega)).ext e506)
     refine so aggInt hb511 [.bool s509,.slice A509 n509 c509] hw10 ge22 rfl rfl rfl rfl fun v510 hb512 u513 hw11=>(ne_ (cw_seq ?_))
     have L515:ln (x*(m0%(y.tdiv r0)))≤34359738368:=Nat.le_trans (ln_mul Lx L504) (by decide)
     have L517:ln (r0-(x*(m0%(y.tdiv r0))))≤34359738369:=Nat.le_trans (ln_sub Lr0 L515) (by decide)
     have L519:ln ((r0-(x*(m0%(y.tdiv r0)))).tdiv y)≤34359738369:=Nat.le_trans (ln_tdiv _ _) L517
     refine cw_draw mix 10 [8,9] [Is (.agg #[.bool k0.s,.slice k0.A k0.n k0.c]),Is (.agg #[.bool sa,.slice Aa na ca]),Is (.agg #[.bool s509,.slice A509 n509 c509]),ZR w.heap.size (x*(m0%(y.tdiv r0))),ZR w.heap.size (r0-(x*(m0%(y.tdiv r0)))),Is (.agg #[.bool sb,.slice Ab nb cb]),T2 (ZR w.heap.size ((r0-(x*(m0%(y.tdiv r0)))).tdiv y)) (Is (.int .i64 0)),T2 (ZR w.heap.size ((r0-(x*(m0%(y.tdiv r0)))).tdiv y)) (Is (.int .i64 0)),ZR w.heap.size ((r0-(x*(m0%(y.tdiv r0)))).tdiv y),Is (.int .i64 0)] [[],[],[],[1,2],[0,3],[],[4,5],[6],[7],[7]] [[],[],[],[1,2],[0,1,2,3],[],[0,1,2,3,4,5],[0,1,2,3,4,5,6],[0,1,2,3,4,5,6,7],[0,1,2,3,4,5,6,7],[0,1,2,3,4,5,6,7,8]] rfl
      (obs_cons rfl rfl (hob rfl rfl ?_) (obs_cons rfl rfl (hob rfl rfl ?_) (obs_cons rfl rfl (hob rfl rfl ?_) (obs_cons rfl rfl (hob rfl rfl ?_) (obs_cons rfl rfl (hob rfl rfl ?_) (obs_cons rfl rfl (hob rfl rfl ?_) (obs_cons rfl rfl (hob rfl rfl ?_) (obs_cons rfl rfl (hob rfl rfl ?_) (obs_float rfl rfl (fob rfl ?_) (obs_float rfl rfl (fob rfl ?_) obs_nil)))))))))) ?_
     · 
      exact fun _ e526=>deps_nil (lo aggInt ((((((hb250.updN u257 (by omega)).ext (e485.trans (e489.trans e495))).updN u502 (by omega)).ext e506).updN u513 (by omega)).ext e526) [.bool k0.s,.slice k0.A k0.n k0.c] rfl rfl rfl (pi_done rfl (Ext.refl _) rfl))
     · 
      exact fun _ e528=>deps_nil (lo aggInt ((((((((b_2.ext (e244.trans e247)).updN u251 (by omega)).updN u257 (by omega)).ext (e485.trans (e489.trans e495))).updN u502 (by omega)).ext e506).updN u513 (by omega)).ext e528) [.bool sa,.slice Aa na ca] rfl rfl rfl (pi_done rfl (Ext.refl _) rfl))
     · 
      exact fun _ e530=>deps_nil (lo aggInt (hb512.ext e530) [.bool s509,.slice A509 n509 c509] rfl rfl rfl (pi_done rfl (Ext.refl _) rfl))
     · 
      intro v531 e532
      have hw12:=hw11.trans e532
      refine dk rfl rfl (dk rfl rfl (deps_nil ?_))
      have L543:ln (x*(m0%(y.tdiv r0)))≤34359738368:=Nat.le_trans (ln_mul Lx L504) (by decide)
      refine cl (vs:= [.agg #[.bool sa,.slice Aa na ca],.agg #[.bool s509,.slice A509 n509 c509]]) hw12 (g_zint_Mul hw12.size (hx.ext hw12) (lx_ la rfl) ((z509.updT hb511 u513).ext e532).zi (z509.le (lx_ L504 rfl))) rfl (by kernel_rfl) fun xr546 v544 r546 e545 hw13=>?_
      obtain⟨s547,A547,n547,c547,rfl,z547⟩:=r546
      exact pi_done rfl e545 ⟨_,_,_,_,rfl,z547⟩
     · 
      intro v548 e549
      have hw12:=hw11.trans e549
      refine dk rfl rfl (deps_cons rfl rfl fun x555 y556 h557 e558 f559=>?_)
      obtain⟨s560,A560,n560,c560,rfl,z560⟩:=h557
      have z560:=z560.ext f559
      refine deps_nil ?_
      have L561:ln (r0-(x*(m0%(y.tdiv r0))))≤34359738369:=Nat.le_trans (ln_sub Lr0 L515) (by decide)
      refine cl (vs:= [.agg #[.bool k0.s,.slice k0.A k0.n k0.c],.agg #[.bool s560,.slice A560 n560 c560]]) hw12 (g_zint_Sub hw12.size ((((((((zk0.ext (e244.trans e247)).updT hb249 u251).updT hb255 u257).ext (e485.trans (e489.trans e495))).updT hb496 u502).ext e506).updT hb511 u513).ext e549).zi (zk0.le (lx_ Lr0 rfl)) z560.zi (z560.le (lx_ L515 rfl))) rfl (by kernel_rfl) fun xr564 v562 r564 e563 hw13=>?_
      obtain⟨s565,A565,n565,c565,rfl,z565⟩:=r564
      exact pi_done rfl e563 ⟨_,_,_,_,rfl,z565⟩
     · 
      exact fun _ e567=>deps_nil (lo aggInt ((((((((b_3.ext (e244.trans e247)).updN u251 (by omega)).updN u257 (by omega)).ext (e485.trans (e489.trans e495))).updN u502 (by omega)).ext e506).updN u513 (by omega)).ext e567) [.bool sb,.slice Ab nb cb] rfl rfl rfl (pi_done rfl (Ext.refl _) rfl))
     · 
      intro v568 e569
      have hw12:=hw11.trans e569
      refine deps_cons rfl rfl fun x570 y571 h572 e573 f574=>?_
      obtain⟨s575,A575,n575,c575,rfl,z575⟩:=h572
      have z575:=z575.ext f574
      refine dk rfl rfl (deps_nil ?_)
      have L581:ln ((r0-(x*(m0%(y.tdiv r0)))).tdiv y)≤34359738369:=Nat.le_trans (ln_tdiv _ _) L517
      refine cl (vs:= [.agg #[.bool s575,.slice A575 n575 c575],.agg #[.bool sb,.slice Ab nb cb]]) hw12 (g_zint_Exact_ok hw12.size z575.zi (z575.le (lx_ L517 rfl)) (hy.ext hw12) (lx_ lb rfl) h0 HD.2.2.2.2.1) rfl (by kernel_rfl) fun xr584 v582 r584 e583 hw13=>?_
      obtain⟨_,_,rfl,⟨s586,A586,n586,c586,rfl,z586⟩,rfl⟩:=r584
      exact pi_done rfl e583 ⟨_,_,rfl,⟨_,_,_,_,rfl,z586⟩,rfl⟩
     · 
      intro v587 e588
      refine deps_cons rfl rfl fun x589 y590 h591 e592 f593=>?_
      obtain⟨_,_,rfl,⟨s595,A595,n595,c595,rfl,z595⟩,rfl⟩:=h591
      have z595:=z595.ext f593
      refine deps_nil (mv 1 rfl ?_)
      exact pi_done rfl (Ext.refl _) ⟨_,_,rfl,⟨_,_,_,_,rfl,z595⟩,rfl⟩
     · 
      intro v596 e597
      refine deps_cons rfl rfl fun x598 y599 h600 e601 f602=>?_
      obtain⟨_,_,rfl,⟨s604,A604,n604,c604,rfl,z604⟩,rfl⟩:=h600
      have z604:=z604.ext f602
      refine deps_nil ?_
      exact⟨.agg #[.bool s604,.slice A604 n604 c604],rfl,rfl,fun _=>by kernel_rfl,⟨_,_,_,_,rfl,z604⟩⟩
     · 
      intro v605 e606
      refine deps_cons rfl rfl fun x607 y608 h609 e610 f611=>?_
      obtain⟨_,_,rfl,⟨s613,A613,n613,c613,rfl,z613⟩,rfl⟩:=h609
      have z613:=z613.ext f611
      refine deps_nil ?_
      exact⟨.int .i64 0,rfl,rfl,fun _=>by kernel_rfl,rfl⟩
     · 
      intro v614 e615
      have hw12:=hw11.trans e615
      refine dk rfl rfl (dk rfl rfl (dk rfl rfl (deps_cons rfl rfl fun x631 y632 h633 e634 f635=>?_)))
      obtain⟨s636,A636,n636,c636,rfl,z636⟩:=h633
      have z636:=z636.ext f635
      refine deps_cons rfl rfl fun x637 y638 h639 e640 f641=>?_
      obtain⟨s642,A642,n642,c642,rfl,z642⟩:=h639
      have z642:=z642.ext f641
      refine dk rfl rfl (deps_cons rfl rfl fun x648 y649 h650 e651 f652=>?_)
      obtain⟨_,_,rfl,⟨s654,A654,n654,c654,rfl,z654⟩,rfl⟩:=h650
      have z654:=z654.ext f652
      refine deps_cons rfl rfl fun x655 y656 h657 e658 f659=>?_
      obtain⟨_,_,rfl,⟨s661,A661,n661,c661,rfl,z661⟩,rfl⟩:=h657
      have z661:=z661.ext f659
      refine deps_cons rfl rfl fun x662 y663 h664 e665 f666=>?_
      obtain⟨s667,A667,n667,c667,rfl,z667⟩:=h664
      have z667:=z667.ext f666
      refine dk rfl rfl (deps_nil ?_)
      have hb674:=((((((((b_6.ext (e244.trans e247)).updN u251 (by omega)).updN u257 (by omega)).ext (e485.trans (e489.trans e495))).updN u502 (by omega)).ext e506).updN u513 (by omega)).ext e615)
      refine so aggInt hb674 [.bool s667,.slice A667 n667 c667] hw12 ge28 rfl rfl rfl rfl fun v673 hb675 u676 hw13=>(wl_nil (eo_np (eo_then (cw_seq (cw_keep [(2,.pointer (some ⟨g1,0,none⟩)),(3,.pointer (some ⟨g6,0,none⟩)),(4,.pointer (some ⟨g12,0,none⟩)),(5,.pointer (some ⟨g18,0,none⟩)),(6,.pointer (some ⟨g24,0,none⟩)),(7,.pointer (some ⟨g215,0,none⟩)),(8,.pointer (some ⟨g232,0,none⟩)),(32,.pointer (some ⟨g215,2,none⟩)),(33,.agg #[.bool k1.s,.slice k1.A k1.n k1.c]),(34,.int .i64 (scmp r1 0)),(35,.bool false),(60,.pointer (some ⟨g215,0,none⟩)),(61,.agg #[.bool k0.s,.slice k0.A k0.n k0.c]),(62,.pointer (some ⟨g232,0,none⟩)),(63,.agg #[.bool k2.s,.slice k2.A k2.n k2.c]),(64,.agg #[.bool sa,.slice Aa na ca]),(65,.int .i64 (scmp x 0)),(66,.bool false),(70,.agg #[.bool sb,.slice Ab nb cb]),(71,.agg #[.bool k0.s,.slice k0.A k0.n k0.c]),(72,.tuple #[.agg #[.bool s492,.slice A492 n492 c492],I0]),(69,.tuple #[.agg #[.bool s492,.slice A492 n492 c492],I0]),(73,.agg #[.bool s492,.slice A492 n492 c492]),(74,.int .i64 0),(13,.pointer (some ⟨g493,0,none⟩)),(14,.int .i64 0),(76,.agg #[.bool k2.s,.slice k2.A k2.n k2.c]),(77,.agg #[.bool s492,.slice A492 n492 c492]),(78,.tuple #[.agg #[.bool s509,.slice A509 n509 c509],I0]),(75,.tuple #[.agg #[.bool s509,.slice A509 n509 c509],I0]),(79,.agg #[.bool s509,.slice A509 n509 c509]),(80,.int .i64 0),(82,.agg #[.bool k0.s,.slice k0.A k0.n k0.c]),(83,.agg #[.bool sa,.slice Aa na ca]),(84,.agg #[.bool s509,.slice A509 n509 c509]),(85,.agg #[.bool s636,.slice A636 n636 c636]),(86,.agg #[.bool s642,.slice A642 n642 c642]),(87,.agg #[.bool sb,.slice Ab nb cb]),(88,.tuple #[.agg #[.bool s654,.slice A654 n654 c654],I0]),(81,.tuple #[.agg #[.bool s661,.slice A661 n661 c661],I0]),(89,.agg #[.bool s667,.slice A667 n667 c667]),(90,.int .i64 0)] ⟨rfl,rfl,rfl,rfl,rfl,rfl,rfl,rfl,rfl,rfl,rfl,rfl,rfl,rfl,rfl,rfl,rfl,rfl,rfl,rfl,rfl,rfl,rfl,rfl,rfl,rfl,rfl,rfl,rfl,rfl,rfl,rfl,rfl,rfl,rfl,rfl,rfl,rfl,rfl,rfl,rfl,rfl,trivial⟩ ?_)))))
      obtain⟨v678,hv,e679⟩:∃v,v=v673.drew∧Ext v673 v:=⟨_,rfl,(Ext.refl _).drew⟩
      have hw14:=hw13.trans e679
      have hb681:=((((((((hb250.updN u257 (by omega)).ext (e485.trans (e489.trans e495))).updN u502 (by omega)).ext e506).updN u513 (by omega)).ext e615).updN u676 (by omega)).ext e679)
      obtain⟨v680,hr685,hb682,u683,hs684⟩:=run_stored (P:=Tryz.prog) (us:= [.bool k0.s,.slice k0.A k0.n k0.c]) (off:=0) aggInt rfl hb681 (bq rfl) rfl [.bool k0.s,.slice k0.A k0.n k0.c] rfl
      have hw15:=u683.ext hw14 ge16
      have hb687:=((((hb512.ext e615).updN u676 (by omega)).ext e679).updN u683 (by omega))
      obtain⟨v686,hr691,hb688,u689,hs690⟩:=run_stored (P:=Tryz.prog) (us:= [.bool s509,.slice A509 n509 c509]) (off:=0) aggInt rfl hb687 (bq rfl) rfl [.bool s509,.slice A509 n509 c509] rfl
      have hw16:=u689.ext hw15 ge22
      have hb693:=(((hb675.ext e679).updN u683 (by omega)).updN u689 (by omega))
      obtain⟨v692,hr697,hb694,u695,hs696⟩:=run_stored (P:=Tryz.prog) (us:= [.bool s667,.slice A667 n667 c667]) (off:=0) aggInt rfl hb693 (bq rfl) rfl [.bool s667,.slice A667 n667 c667] rfl
      have hw17:=u695.ext hw16 ge28
      refine cw_det mix (w:=v678) [.agg #[.bool k0.s,.slice k0.A k0.n k0.c],.agg #[.bool s509,.slice A509 n509 c509],.agg #[.bool s667,.slice A667 n667 c667],undef,undef,undef] [v678,v680,v686,v692] [3,4,5] [[],[],[],[0],[1],[2]] [[],[],[],[0],[0,1,3],[0,1,2,3,4]] [(0,0),(1,0),(1,1),(2,0),(2,1),(2,2),(3,0),(4,1),(5,2)] rfl hv ?_ ?_
      · 
       refine dobs_val _ rfl rfl rfl rfl rfl (rd_load rfl (load_agg aggInt ((((((((hb250.updN u257 (by omega)).ext (e485.trans (e489.trans e495))).updN u502 (by omega)).ext e506).updN u513 (by omega)).ext e615).updN u676 (by omega)).ext e679) [.bool k0.s,.slice k0.A k0.n k0.c] rfl (bq rfl) rfl)) (dobs_val _ rfl rfl rfl rfl rfl (rd_load rfl (load_agg aggInt (((hb512.ext e615).updN u676 (by omega)).ext e679) [.bool s509,.slice A509 n509 c509] rfl (bq rfl) rfl)) (dobs_val _ rfl rfl rfl rfl rfl (rd_load rfl (load_agg aggInt ((((hb512.ext e615).updN u676 (by omega)).ext e679).updN u683 (by omega)) [.bool s509,.slice A509 n509 c509] rfl (bq rfl) rfl)) (dobs_val _ rfl rfl rfl rfl rfl (rd_load rfl (load_agg aggInt (hb675.ext e679) [.bool s667,.slice A667 n667 c667] rfl (bq rfl) rfl)) (dobs_val _ rfl rfl rfl rfl rfl (rd_load rfl (load_agg aggInt ((hb675.ext e679).updN u683 (by omega)) [.bool s667,.slice A667 n667 c667] rfl (bq rfl) rfl)) (dobs_val _ rfl rfl rfl rfl rfl (rd_load rfl (load_agg aggInt (((hb675.ext e679).updN u683 (by omega)).updN u689 (by omega)) [.bool s667,.slice A667 n667 c667] rfl (bq rfl) rfl)) (dobs_sto _ rfl rfl rfl rfl rfl (rd_store rfl rfl hr685) (dobs_sto _ rfl rfl rfl rfl rfl (rd_store rfl rfl hr691) (dobs_sto _ rfl rfl rfl rfl rfl (rd_store rfl rfl hr697) ?_))))))))
       exact dobs_nil
      clear hv
      refine eo_keep [(2,.pointer (some ⟨g1,0,none⟩)),(3,.pointer (some ⟨g6,0,none⟩)),(4,.pointer (some ⟨g12,0,none⟩)),(5,.pointer (some ⟨g18,0,none⟩)),(6,.pointer (some ⟨g24,0,none⟩)),(7,.pointer (some ⟨g215,0,none⟩)),(8,.pointer (some ⟨g232,0,none⟩)),(32,.pointer (some ⟨g215,2,none⟩)),(33,.agg #[.bool k1.s,.slice k1.A k1.n k1.c]),(34,.int .i64 (scmp r1 0)),(35,.bool false),(60,.pointer (some ⟨g215,0,none⟩)),(61,.agg #[.bool k0.s,.slice k0.A k0.n k0.c]),(62,.pointer (some ⟨g232,0,none⟩)),(63,.agg #[.bool k2.s,.slice k2.A k2.n k2.c]),(64,.agg #[.bool sa,.slice Aa na ca]),(65,.int .i64 (scmp x 0)),(66,.bool false),(70,.agg #[.bool sb,.slice Ab nb cb]),(71,.agg #[.bool k0.s,.slice k0.A k0.n k0.c]),(72,.tuple #[.agg #[.bool s492,.slice A492 n492 c492],I0]),(69,.tuple #[.agg #[.bool s492,.slice A492 n492 c492],I0]),(73,.agg #[.bool s492,.slice A492 n492 c492]),(74,.int .i64 0),(13,.pointer (some ⟨g493,0,none⟩)),(14,.int .i64 0),(76,.agg #[.bool k2.s,.slice k2.A k2.n k2.c]),(77,.agg #[.bool s492,.slice A492 n492 c492]),(78,.tuple #[.agg #[.bool s509,.slice A509 n509 c509],I0]),(75,.tuple #[.agg #[.bool s509,.slice A509 n509 c509],I0]),(79,.agg #[.bool s509,.slice A509 n509 c509]),(80,.int .i64 0),(82,.agg #[.bool k0.s,.slice k0.A k0.n k0.c]),(83,.agg #[.bool sa,.slice Aa na ca]),(84,.agg #[.bool s509,.slice A509 n509 c509]),(85,.agg #[.bool s636,.slice A636 n636 c636]),(86,.agg #[.bool s642,.slice A642 n642 c642]),(87,.agg #[.bool sb,.slice Ab nb cb]),(88,.tuple #[.agg #[.bool s654,.slice A654 n654 c654],I0]),(81,.tuple #[.agg #[.bool s661,.slice A661 n661 c661],I0]),(89,.agg #[.bool s667,.slice A667 n667 c667]),(90,.int .i64 0),(91,.agg #[.bool k0.s,.slice k0.A k0.n k0.c]),(92,.agg #[.bool s509,.slice A509 n509 c509]),(93,.agg #[.bool s667,.slice A667 n667 c667])] ⟨rfl,rfl,rfl,rfl,rfl,rfl,rfl,rfl,rfl,rfl,rfl,rfl,rfl,rfl,rfl,rfl,rfl,rfl,rfl,rfl,rfl,rfl,rfl,rfl,rfl,rfl,rfl,rfl,rfl,rfl,rfl,rfl,rfl,rfl,rfl,rfl,rfl,rfl,rfl,rfl,rfl,rfl,rfl,rfl,rfl,trivial⟩ (eo_then (cw_ret (eo_ret [.agg #[.bool k0.s,.slice k0.A k0.n k0.c],.agg #[.bool s509,.slice A509 n509 c509],.agg #[.bool s667,.slice A667 n667 c667]] rfl ⟨⟨_,rfl,load_agg aggInt ((hb682.updN u689 (by omega)).updN u695 (by omega)) [.bool k0.s,.slice k0.A k0.n k0.c] rfl (bq rfl) rfl⟩,⟨_,rfl,load_agg aggInt (hb688.updN u695 (by omega)) [.bool s509,.slice A509 n509 c509] rfl (bq rfl) rfl⟩,⟨_,rfl,load_agg aggInt hb694 [.bool s667,.slice A667 n667 c667] rfl (bq rfl) rfl⟩,trivial⟩ ?_)))
      exact⟨_,_,HD.2.2.2.2.2,_,rfl,⟨_,_,_,rfl,⟨_,_,_,_,rfl,((((((((((((((zk0.ext (e244.trans e247)).updT hb249 u251).updT hb255 u257).ext (e485.trans (e489.trans e495))).updT hb496 u502).ext e506).updT hb511 u513).ext e615).updT hb674 u676).ext e679).updT hb681 u683).updT hb687 u689).updT hb693 u695)).cast HD.1⟩,⟨_,_,_,_,rfl,(((((((z509.updT hb511 u513).ext e615).updT hb674 u676).ext e679).updT hb681 u683).updT hb687 u689).updT hb693 u695)⟩,⟨_,_,_,_,rfl,(((((z667.updT hb674 u676).ext e679).updT hb681 u683).updT hb687 u689).updT hb693 u695)⟩⟩,hw17⟩
   · 
    refine cw_region (pf g215 2 rfl (by kernel_rfl) (lo aggInt b_7 [.bool k1.s,.slice k1.A k1.n k1.c] rfl rfl rfl (cl (vs:= [.agg #[.bool k1.s,.slice k1.A k1.n k1.c]]) hw1 (g_zint_Sign zk1.zi (zk1.le (lx_ Lr1 rfl))) rfl (by kernel_rfl) fun xr700 v698 r700 e699 hw2=>?_)))
    obtain rfl:=r700
    refine wl_cmp rfl rfl rfl true (scmp_ne_t hr) (by decide) (ne_ (cw_true rfl (cw_skip (eo_then (cw_block (sr (pf g215 0 rfl (by kernel_rfl) (lo aggInt (b_7.ext e699) [.bool k0.s,.slice k0.A k0.n k0.c] rfl rfl rfl (pf g215 2 rfl (by kernel_rfl) (lo aggInt (b_7.ext e699) [.bool k1.s,.slice k1.A k1.n k1.c] rfl rfl rfl ?_))))))))))
    have L701:ln ((r0).tdiv r1)≤17179869184:=Nat.le_trans (ln_tdiv _ _) Lr0
    have L702:ln ((r0).tmod r1)≤17179869184:=Nat.le_trans (ln_tmod _ _) Lr0
    refine cl (vs:= [.agg #[.bool k0.s,.slice k0.A k0.n k0.c],.agg #[.bool k1.s,.slice k1.A k1.n k1.c]]) hw2 (g_zint_Trunc hw2.size (zk0.ext e699).zi (zk0.le (lx_ Lr0 rfl)) (zk1.ext e699).zi (zk1.le (lx_ Lr1 rfl)) hr) rfl (by kernel_rfl) fun xr705 v703 r705 e704 hw3=>?_
    obtain⟨_,_,_,rfl,⟨s707,A707,n707,c707,rfl,z707⟩,⟨s708,A708,n708,c708,rfl,z708⟩,rfl⟩:=r705
    refine mv 1 rfl (pu (v:= .agg #[.bool s707,.slice A707 n707 c707]) rfl (by kernel_rfl) (pu (v:= .agg #[.bool s708,.slice A708 n708 c708]) rfl (by kernel_rfl) (pu (v:= .int .i64 0) rfl (by kernel_rfl) (alq [F0,S0] hw3 (b_8.ext (e699.trans e704)).lt (fun _=>by kernel_rfl) rfl fun g709 v710 hb712 ge713 q714 e711 hw4=>(alq [F0,S0] hw4 hb712.lt (fun _=>by kernel_rfl) rfl fun g715 v716 hb718 ge719 q720 e717 hw5=>?_)))))
    have hb722:=(hb712.ext e717)
    refine so aggInt hb722 [.bool s707,.slice A707 n707 c707] hw5 ge713 rfl rfl rfl rfl fun v721 hb723 u724 hw6=>?_
    have hb727:=(hb718.updN u724 (by omega))
    refine so aggInt hb727 [.bool s708,.slice A708 n708 c708] hw6 ge719 rfl rfl rfl rfl fun v726 hb728 u729 hw7=>(mv 1 rfl (ne_ (cw_seq ?_)))
    have L731:ln ((r0.tdiv r1)*m1)≤34359738368:=Nat.le_trans (ln_mul L701 Lm1) (by decide)
    have L733:ln (m0-((r0.tdiv r1)*m1))≤34359738369:=Nat.le_trans (ln_sub Lm0 L731) (by decide)
    refine cw_draw mix 8 [] [Is (.pointer (some ⟨g232,0,none⟩)),Is (.agg #[.bool k2.s,.slice k2.A k2.n k2.c]),Is (.agg #[.bool s707,.slice A707 n707 c707]),Is (.pointer (some ⟨g232,2,none⟩)),Is (.agg #[.bool k3.s,.slice k3.A k3.n k3.c]),ZR w.heap.size ((r0.tdiv r1)*m1),ZR w.heap.size (m0-((r0.tdiv r1)*m1)),PR v726.heap.size 27 [F0,S0]] [[],[0],[],[],[3],[2,4],[1,5],[]] [[],[0],[],[],[3],[2,3,4],[0,1,2,3,4,5],[],[0,1,2,3,4,5,6,7]] rfl
     (obs_cons rfl rfl (hob rfl rfl ?_) (obs_cons rfl rfl (hob rfl rfl ?_) (obs_cons rfl rfl (hob rfl rfl ?_) (obs_cons rfl rfl (hob rfl rfl ?_) (obs_cons rfl rfl (hob rfl rfl ?_) (obs_cons rfl rfl (hob rfl rfl ?_) (obs_cons rfl rfl (hob rfl rfl ?_) (obs_cons rfl rfl (hob rfl rfl ?_) obs_nil)))))))) ?_
    · 
     exact fun _ _=>deps_nil (pf g232 0 rfl (by kernel_rfl) (pi_done rfl (Ext.refl _) rfl))
    · 
     exact fun _ e738=>dk rfl rfl (deps_nil (lo aggInt ((((b_8.ext (e699.trans (e704.trans (e711.trans e717)))).updN u724 (by omega)).updN u729 (by omega)).ext e738) [.bool k2.s,.slice k2.A k2.n k2.c] rfl rfl rfl (pi_done rfl (Ext.refl _) rfl)))
    · 
     exact fun _ e745=>deps_nil (lo aggInt ((hb723.updN u729 (by omega)).ext e745) [.bool s707,.slice A707 n707 c707] rfl rfl rfl (pi_done rfl (Ext.refl _) rfl))
    · 
     exact fun _ _=>deps_nil (pf g232 2 rfl (by kernel_rfl) (pi_done rfl (Ext.refl _) rfl))
    · 
     exact fun _ e749=>dk rfl rfl (deps_nil (lo aggInt ((((b_8.ext (e699.trans (e704.trans (e711.trans e717)))).updN u724 (by omega)).updN u729 (by omega)).ext e749) [.bool k3.s,.slice k3.A k3.n k3.c] rfl rfl rfl (pi_done rfl (Ext.refl _) rfl)))
    · 
     intro v755 e756
     have hw8:=hw7.trans e756
     refine dk rfl rfl (dk rfl rfl (deps_nil ?_))
     have L767:ln ((r0.tdiv r1)*m1)≤34359738368:=Nat.le_trans (ln_mul L701 Lm1) (by decide)
     refine cl (vs:= [.agg #[.bool s707,.slice A707 n707 c707],.agg #[.bool k3.s,.slice k3.A k3.n k3.c]]) hw8 (g_zint_Mul hw8.size ((((z707.ext (e711.trans e717)).updT hb722 u724).updT hb727 u729).ext e756).zi (z707.le (lx_ L701 rfl)) ((((zk3.ext (e699.trans (e704.trans (e711.trans e717)))).updT hb722 u724).updT hb727 u729).ext e756).zi (zk3.le (lx_ Lm1 rfl))) rfl (by kernel_rfl) fun xr770 v768 r770 e769 hw9=>?_
     obtain⟨s771,A771,n771,c771,rfl,z771⟩:=r770
     exact pi_done rfl e769 ⟨_,_,_,_,rfl,z771⟩
    · 
     intro v772 e773
     have hw8:=hw7.trans e773
     refine dk rfl rfl (deps_cons rfl rfl fun x779 y780 h781 e782 f783=>?_)
     obtain⟨s784,A784,n784,c784,rfl,z784⟩:=h781
     have z784:=z784.ext f783
     refine deps_nil ?_
     have L785:ln (m0-((r0.tdiv r1)*m1))≤34359738369:=Nat.le_trans (ln_sub Lm0 L731) (by decide)
     refine cl (vs:= [.agg #[.bool k2.s,.slice k2.A k2.n k2.c],.agg #[.bool s784,.slice A784 n784 c784]]) hw8 (g_zint_Sub hw8.size ((((zk2.ext (e699.trans (e704.trans (e711.trans e717)))).updT hb722 u724).updT hb727 u729).ext e773).zi (zk2.le (lx_ Lm0 rfl)) z784.zi (z784.le (lx_ L731 rfl))) rfl (by kernel_rfl) fun xr788 v786 r788 e787 hw9=>?_
     obtain⟨s789,A789,n789,c789,rfl,z789⟩:=r788
     exact pi_done rfl e787 ⟨_,_,_,_,rfl,z789⟩
    · 
     intro v790 e791
     refine deps_nil (wl_alloc rfl (z:= .agg #[F0,S0]) (vs:= [F0,S0]) (fun _=>by kernel_rfl) rfl (by decide) fun g792 v793 nb=>?_)
     exact pi_done rfl nb.ext ⟨_,rfl,by rw [←nb.at_];exact e791.size,nb.bk⟩
    · 
     intro v794 e795
     have hw8:=hw7.trans e795
     refine dk rfl rfl (dk rfl rfl (dk rfl rfl (dk rfl rfl (dk rfl rfl (deps_cons rfl rfl fun x821 y822 h823 e824 f825=>?_)))))
     obtain⟨s826,A826,n826,c826,rfl,z826⟩:=h823
     have z826:=z826.ext f825
     refine deps_cons rfl rfl fun x827 y828 h829 e830 f831=>?_
     obtain⟨s832,A832,n832,c832,rfl,z832⟩:=h829
     have z832:=z832.ext f831
     refine deps_cons rfl rfl fun x833 y834 h835 e836 f837=>?_
     obtain⟨g838,rfl,ge840,hb839⟩:=h835
     have hb839:=hb839.ext f837
     have q841:g715<g838:=Nat.lt_of_lt_of_le hb728.lt ge840
     have ge840:w.heap.size≤g838:=Nat.le_trans hw7.size ge840
     refine deps_nil (so aggInt hb839 [.bool s832,.slice A832 n832 c832] hw8 ge840 rfl rfl rfl rfl fun v842 hb844 u845 hw9=>(wl_nil (eo_np (eo_then (sr (pf g215 2 rfl (by kernel_rfl) (lo aggInt (((((b_7.ext (e699.trans (e704.trans (e711.trans e717)))).updN u724 (by omega)).updN u729 (by omega)).ext e795).updN u845 (by omega)) [.bool k1.s,.slice k1.A k1.n k1.c] rfl rfl rfl (lo aggInt ((hb728.ext e795).updN u845 (by omega)) [.bool s708,.slice A708 n708 c708] rfl rfl rfl (pu (v:= .agg #[.bool k1.s,.slice k1.A k1.n k1.c,.bool s708,.slice A708 n708 c708]) rfl (by kernel_rfl) ?_)))))))))
     have hb848:=(((((b_7.ext (e699.trans (e704.trans (e711.trans e717)))).updN u724 (by omega)).updN u729 (by omega)).ext e795).updN u845 (by omega))
     refine so aggTwo hb848 [.bool k1.s,.slice k1.A k1.n k1.c,.bool s708,.slice A708 n708 c708] hw9 ge217 rfl rfl rfl rfl fun v847 hb849 u850 hw10=>(ne_ (cw_region (pf g232 2 rfl (by kernel_rfl) (lo aggInt ((((((b_8.ext (e699.trans (e704.trans (e711.trans e717)))).updN u724 (by omega)).updN u729 (by omega)).ext e795).updN u845 (by omega)).updN u850 (by omega)) [.bool k3.s,.slice k3.A k3.n k3.c] rfl rfl rfl (lo aggInt (hb844.updN u850 (by omega)) [.bool s832,.slice A832 n832 c832] rfl rfl rfl (pu (v:= .agg #[.bool k3.s,.slice k3.A k3.n k3.c,.bool s832,.slice A832 n832 c832]) rfl (by kernel_rfl) ?_))))))
     have hb853:=((((((b_8.ext (e699.trans (e704.trans (e711.trans e717)))).updN u724 (by omega)).updN u729 (by omega)).ext e795).updN u845 (by omega)).updN u850 (by omega))
     refine so aggTwo hb853 [.bool k3.s,.slice k3.A k3.n k3.c,.bool s832,.slice A832 n832 c832] hw10 ge236 rfl rfl rfl rfl fun v852 hb854 u855 hw11=>(wl_nil (eo_block_normal (eo_round (⟨v852,_,_,_,_,⟨k1.s,k1.A,k1.n,k1.c⟩,⟨s708,A708,n708,c708⟩,⟨k3.s,k3.A,k3.n,k3.c⟩,⟨s832,A832,n832,c832⟩⟩:World×Int×Int×Int×Int×ZC×ZC×ZC×ZC) ⟨hw11,hI.step hr,(((((((b_2.ext (e699.trans (e704.trans (e711.trans e717)))).updN u724 (by omega)).updN u729 (by omega)).ext e795).updN u845 (by omega)).updN u850 (by omega)).updN u855 (by omega)),(((((((b_3.ext (e699.trans (e704.trans (e711.trans e717)))).updN u724 (by omega)).updN u729 (by omega)).ext e795).updN u845 (by omega)).updN u850 (by omega)).updN u855 (by omega)),(((((((b_4.ext (e699.trans (e704.trans (e711.trans e717)))).updN u724 (by omega)).updN u729 (by omega)).ext e795).updN u845 (by omega)).updN u850 (by omega)).updN u855 (by omega)),(((((((b_5.ext (e699.trans (e704.trans (e711.trans e717)))).updN u724 (by omega)).updN u729 (by omega)).ext e795).updN u845 (by omega)).updN u850 (by omega)).updN u855 (by omega)),(((((((b_6.ext (e699.trans (e704.trans (e711.trans e717)))).updN u724 (by omega)).updN u729 (by omega)).ext e795).updN u845 (by omega)).updN u850 (by omega)).updN u855 (by omega)),(hb849.updN u855 (by omega)),hb854,(((((((zk1.ext (e699.trans (e704.trans (e711.trans e717)))).updT hb722 u724).updT hb727 u729).ext e795).updT hb839 u845).updT hb848 u850).updT hb853 u855),(((((((z708.ext (e711.trans e717)).updT hb722 u724).updT hb727 u729).ext e795).updT hb839 u845).updT hb848 u850).updT hb853 u855),(((((((zk3.ext (e699.trans (e704.trans (e711.trans e717)))).updT hb722 u724).updT hb727 u729).ext e795).updT hb839 u845).updT hb848 u850).updT hb853 u855),(((z832.updT hb839 u845).updT hb848 u850).updT hb853 u855)⟩ (tmod_abs hr) rfl ⟨rfl,rfl,rfl,rfl,rfl,rfl,rfl,trivial⟩)))
theorem g_bezout_Ext {w:World}{sa:Bool}{Aa:Option Addr}{na ca:Nat}{x:Int}{sb:Bool}{Ab:Option Addr}{nb cb:Nat}{y:Int}{b:Nat}(hb:b≤w.heap.size) (hx:Zi w sa Aa na ca x) (la:na≤17179869184) (hy:Zi w sb Ab nb cb y) (lb:nb≤17179869184):
  Calls Tryz.prog 9 #[.agg #[.bool sa,.slice Aa na ca],.agg #[.bool sb,.slice Ab nb cb]] w (fun e w'=>∃u v,Bez x y u v∧Gv w (T3 (ZR b (Int.gcd x y:Int)) (ZR b u) (ZR b v)) e w'):=(g_bezout_ExtI hx la hy lb).mono fun e w2 h=>(by obtain⟨u,v,h1,h2⟩:=h;exact⟨u,v,h1,Gv.imp (T3.imp (ZR.imp hb) (ZR.imp hb) (ZR.imp hb)) _ _ h2⟩)
theorem Zi.sg {w:World}{s:Bool}{A:Option Addr}{n cap:Nat}{z:Int}(h:Zi w s A n cap z):Go.Proofs.YtgilhcdglaneiaaGreat.sg s z.natAbs=z:=by
 obtain⟨xs,_,rfl⟩:=h
 rw [sg_abs]
theorem ln_eq_zero {x:Int}(h:ln x=0):x=0:=by
 have:=len_wd_zero.1 (show (wd x.natAbs).length=0 from h)
 omega
theorem ln_sg (s:Bool) (m:Nat):ln (sg s m)=(wd m).length:=by unfold ln;rw [sg_abs]
theorem scmp_m1 {x y:Int}(h:x<y):scmp x y= -1:=by unfold scmp;rw [if_pos h]
theorem scmp_p1 {x y:Int}(h:y<x):scmp x y=1:=by unfold scmp;rw [if_neg (by omega),if_neg (by omega)]
theorem scmp_z {x y:Int}(h:x=y):scmp x y=0:=scmp_zero.2 h
theorem scmp_diff_lt {x y:Int}(h:scmp x 0<scmp y 0):scmp x y= -1:=scmp_m1 (by unfold scmp at h;split at h <;> split at h <;> (try split at h) <;> omega)
theorem scmp_diff_gt {x y:Int}(h:scmp y 0<scmp x 0):scmp x y=1:=scmp_p1 (by unfold scmp at h;split at h <;> split at h <;> (try split at h) <;> omega)
theorem scmp_same {x y:Int}(h:scmp x 0=scmp y 0):scmp x 0*cmp3 (Int.natAbs x) (Int.natAbs y)=scmp x y:=by
 rcases Int.lt_trichotomy x 0 with hx | hx | hx
 ·have hy:y<0:=scmp_neg.1 (by rw [←h,scmp_m1 hx];decide)
  rw [scmp_m1 hx]
  unfold scmp cmp3
  by_cases h1:x<y
  ·rw [if_neg (by omega),if_neg (by omega),if_pos h1];rfl
  ·by_cases h2:x=y
   ·rw [if_neg (by omega),if_pos (by omega),if_neg h1,if_pos h2];rfl
   ·rw [if_pos (by omega),if_neg h1,if_neg h2];rfl
 ·subst hx
  have hy:y=0:=scmp_zero.1 (by rw [←h];rfl)
  subst hy;rfl
 ·have hy:0<y:=scmp_pos.1 (by rw [←h,scmp_p1 hx];decide)
  rw [scmp_p1 hx,Int.one_mul]
  unfold scmp cmp3
  by_cases h1:x<y
  ·rw [if_pos (by omega),if_pos h1]
  ·by_cases h2:x=y
   ·rw [if_neg (by omega),if_pos (by omega),if_neg h1,if_pos h2]
   ·rw [if_neg (by omega),if_neg (by omega),if_neg h1,if_neg h2]
theorem cmp3_ge_t {x y:Nat}(h:y≤x):cmpB .geq (cmp3 x y) 0=some true:=by
 have e:¬cmp3 x y<0:=fun e=>by have:=cmp3_neg.1 e;omega
 exact ge_t (by omega)
theorem cmp3_ge_f {x y:Nat}(h:¬y≤x):cmpB .geq (cmp3 x y) 0=some false:=by
 have e:=cmp3_neg.2 (show x<y by omega)
 exact ge_f (by omega)
section
variable {w:World}{A B:Option Addr}{n cap m cap' i j:Nat}
theorem g_ref1_Least {b:Nat}(hb:b≤w.heap.size) (hx:Wi w A n cap i) (hl:n≤68719476735):Calls Tryz.prog 52 #[.slice A n cap] w (Gv w (WR b i)):=by
 obtain⟨xs,h1,rfl⟩:=hx
 exact (ref1_Least h1 (by omega)).mono (gw hb)
theorem g_ref1_Add {b:Nat}(hb:b≤w.heap.size) (hx:Wi w A n cap i) (hl:n≤68719476735) (hy:Wi w B m cap' j) (hl':m≤68719476735):Calls Tryz.prog 101 #[.slice A n cap,.slice B m cap'] w (Gv w (WR b (i+j))):=by
 obtain⟨xs,h1,rfl⟩:=hx
 obtain⟨ys,h2,rfl⟩:=hy
 exact (ref1_Add h1 (by omega) h2 (by omega)).mono (gw hb)
theorem g_ref1_Cmp (hx:Wi w A n cap i) (hl:n≤68719476735) (hy:Wi w B m cap' j) (hl':m≤68719476735):Calls Tryz.prog 102 #[.slice A n cap,.slice B m cap'] w (Gv w (Is (.int .i64 (cmp3 i j)))):=by
 obtain⟨xs,h1,rfl⟩:=hx
 obtain⟨ys,h2,rfl⟩:=hy
 exact (ref1_Cmp h1 (by omega) h2 (by omega)).mono gcmp
theorem g_ref1_Sub {b:Nat}(hb:b≤w.heap.size) (hx:Wi w A n cap i) (hl:n≤68719476735) (hy:Wi w B m cap' j) (hl':m≤68719476735) (hij:j≤i):Calls Tryz.prog 103 #[.slice A n cap,.slice B m cap'] w (Gv w (T2 (WR b (i-j)) (Is (.int .i64 0)))):=by
 obtain⟨xs,h1,rfl⟩:=hx
 obtain⟨ys,h2,rfl⟩:=hy
 exact (ref1_Sub h1 (by omega) h2 (by omega) hij).mono (Gv.imp (T2.imp (WR.imp hb) Is.imp))
theorem g_ref2_Mul {b:Nat}(hb:b≤w.heap.size) (hx:Wi w A n cap i) (hl:n≤68719476735) (hy:Wi w B m cap' j) (hl':m≤68719476735):Calls Tryz.prog 97 #[.slice A n cap,.slice B m cap'] w (Gv w (WR b (i*j))):=by
 obtain⟨xs,h1,rfl⟩:=hx
 obtain⟨ys,h2,rfl⟩:=hy
 exact (ref2_Mul h1 hl h2 hl').mono (gw hb)
theorem g_ref3_DivMod {b:Nat}(hb:b≤w.heap.size) (hx:Wi w A n cap i) (hl:n≤68719476735) (hy:Wi w B m cap' j) (hl':m≤68719476735) (h0:j≠0):Calls Tryz.prog 125 #[.slice A n cap,.slice B m cap'] w (Gv w (T3 (WR b (i/j)) (WR b (i%j)) (Is (.int .i64 0)))):=by
 obtain⟨xs,h1,rfl⟩:=hx
 obtain⟨ys,h2,rfl⟩:=hy
 exact (ref3_DivMod_ok h1 (by omega) h2 (by omega) h0).mono (Gv.imp (T3.imp (WR.imp hb) (WR.imp hb) Is.imp))
end
set_option maxHeartbeats 4000000 in
theorem g_ref5_made {w:World}{s:Bool}{A:Option Addr}{n cap m:Nat}{b:Nat}(hb:b≤w.heap.size) (hx:Wi w A n cap m) (hl:n≤68719476735):
    Calls Tryz.prog 15 #[.bool s,.slice A n cap] w (Gv w (ZR b (sg s m))):=by
 refine Calls.mono (R:=Gv w (ZR w.heap.size (sg s m))) ?_ (Gv.imp (ZR.imp hb))
 refine sx_enter Tryz.func15 rfl (n:=16) rfl (bq rfl) (args:= [.bool s,.slice A n cap]) (cw_keep [(0,.bool s),(1,.slice A n cap)] ⟨rfl,rfl,trivial⟩ (sr (al [F0,S0] (Ext.refl w) (fun _=>by kernel_rfl) rfl fun g1 v2 hb4 ge5 e3 hw1=>(ne_ (sr (mv 1 rfl (cl (vs:= [.slice A n cap]) hw1 (g_ref1_Least hw1.size (hx.ext hw1) (lx_ hl rfl)) rfl (by kernel_rfl) fun xr8 v6 r8 e7 hw2=>?_)))))))
 obtain⟨A9,n9,c9,rfl,j9,o9⟩:=r8
 refine mv 1 rfl (ne_ (cw_seq ?_))
 by_cases hs:s=true
 · 
  subst hs
  by_cases hm0:m=0
  · 
   have hn0:n9=0:=by rw [j9,hm0,wd_zero];rfl
   refine cw_region (mv 3 rfl (pu (v:= .int .i64 ((n9:Nat):Int)) rfl (by kernel_rfl) (wl_cmp rfl rfl rfl false (gt_f (by omega)) (by decide) (pu (v:= .bool false) rfl (by kernel_rfl) (mv 1 rfl (pu (v:= .agg #[F0,.slice A9 n9 c9]) rfl (by kernel_rfl) ?_))))))
   have hb11:=(hb4.ext e7)
   refine so aggInt hb11 [F0,.slice A9 n9 c9] hw2 ge5 rfl rfl rfl rfl fun v10 hb12 u13 hw3=>(ne_ (cw_ret (eo_ret [.agg #[F0,.slice A9 n9 c9]] rfl ⟨⟨_,rfl,load_agg aggInt hb12 [F0,.slice A9 n9 c9] rfl (bq rfl) rfl⟩,trivial⟩ ?_)))
   exact⟨_,rfl,⟨_,_,_,_,rfl,((Zr_of (m:=m) (s:=true) (z:=sg true m) (by rw [sg_lt,hm0];rfl) j9 o9 rfl).updT hb11 u13)⟩,hw3⟩
  · 
   have hn0:n9≠0:=fun e=>hm0 (len_wd_zero.1 (by rw [←j9,e]))
   refine cw_region (mv 3 rfl (pu (v:= .int .i64 ((n9:Nat):Int)) rfl (by kernel_rfl) (wl_cmp rfl rfl rfl true (gt_t (by omega)) (by decide) (pu (v:= .bool true) rfl (by kernel_rfl) (mv 1 rfl (pu (v:= .agg #[.bool true,.slice A9 n9 c9]) rfl (by kernel_rfl) ?_))))))
   have hb16:=(hb4.ext e7)
   refine so aggInt hb16 [.bool true,.slice A9 n9 c9] hw2 ge5 rfl rfl rfl rfl fun v15 hb17 u18 hw3=>(ne_ (cw_ret (eo_ret [.agg #[.bool true,.slice A9 n9 c9]] rfl ⟨⟨_,rfl,load_agg aggInt hb17 [.bool true,.slice A9 n9 c9] rfl (bq rfl) rfl⟩,trivial⟩ ?_)))
   exact⟨_,rfl,⟨_,_,_,_,rfl,((Zr_of (m:=m) (s:=true) (z:=sg true m) (by rw [sg_lt,decide_eq_true (Nat.pos_of_ne_zero hm0)];rfl) j9 o9 rfl).updT hb16 u18)⟩,hw3⟩
 · 
  replace hs:s=false:=by simpa using hs
  subst hs
  refine cw_region (mv 5 rfl (pu (v:= .bool false) rfl (by kernel_rfl) (mv 1 rfl (pu (v:= .agg #[F0,.slice A9 n9 c9]) rfl (by kernel_rfl) ?_))))
  have hb21:=(hb4.ext e7)
  refine so aggInt hb21 [F0,.slice A9 n9 c9] hw2 ge5 rfl rfl rfl rfl fun v20 hb22 u23 hw3=>(ne_ (cw_ret (eo_ret [.agg #[F0,.slice A9 n9 c9]] rfl ⟨⟨_,rfl,load_agg aggInt hb22 [F0,.slice A9 n9 c9] rfl (bq rfl) rfl⟩,trivial⟩ ?_)))
  exact⟨_,rfl,⟨_,_,_,_,rfl,((Zr_of (m:=m) (s:=false) (z:=sg false m) (by rw [sg_lt];rfl) j9 o9 rfl).updT hb21 u23)⟩,hw3⟩
set_option maxHeartbeats 4000000 in
theorem g_ref5_Least {w:World}{sa:Bool}{Aa:Option Addr}{na ca:Nat}{x:Int}{b:Nat}(hb:b≤w.heap.size) (hx:Zi w sa Aa na ca x) (la:na≤17179869183):
    Calls Tryz.prog 20 #[.agg #[.bool sa,.slice Aa na ca]] w (Gv w (ZR b (x))):=by
 refine Calls.mono (R:=Gv w (ZR w.heap.size (x))) ?_ (Gv.imp (ZR.imp hb))
 have Lx:ln x≤17179869183:=Nat.le_trans hx.ln la
 refine sx_enter Tryz.func20 rfl (n:=8) rfl (bq rfl) (args:= [.agg #[.bool sa,.slice Aa na ca]]) (cw_keep [(0,.agg #[.bool sa,.slice Aa na ca])] ⟨rfl,trivial⟩ (sr (bx [.bool sa,.slice Aa na ca] (Ext.refl w) rfl rfl rfl fun g1 v2 hb4 ge5 e3 hw1=>(alq [F0,S0] hw1 hb4.lt (fun _=>by kernel_rfl) rfl fun g6 v7 hb9 ge10 q11 e8 hw2=>(ne_ (sr (pf g1 0 rfl (by kernel_rfl) (wl_load rfl rfl (load_cell cellBool (hb4.ext e8) rfl) (by decide) (pf g1 1 rfl (by kernel_rfl) (wl_load rfl rfl (load_cell cellWords (hb4.ext e8) rfl) (by decide) ?_))))))))))
 have L12:ln (sg sa (Int.natAbs x))≤17179869183:=by rw [ln_sg];exact Lx
 refine cl (vs:= [.bool sa,.slice Aa na ca]) hw2 (g_ref5_made hw2.size (hx.ext hw2).wi (lx_ la rfl)) rfl (by kernel_rfl) fun xr15 v13 r15 e14 hw3=>?_
 obtain⟨s16,A16,n16,c16,rfl,z16⟩:=r15
 have hb18:=(hb9.ext e14)
 refine so aggInt hb18 [.bool s16,.slice A16 n16 c16] hw3 ge10 rfl rfl rfl rfl fun v17 hb19 u20 hw4=>(ne_ (cw_ret (eo_ret [.agg #[.bool s16,.slice A16 n16 c16]] rfl ⟨⟨_,rfl,load_agg aggInt hb19 [.bool s16,.slice A16 n16 c16] rfl (bq rfl) rfl⟩,trivial⟩ ?_)))
 exact⟨_,rfl,⟨_,_,_,_,rfl,((z16.updT hb18 u20)).cast (hx.sg)⟩,hw4⟩
set_option maxHeartbeats 4000000 in
theorem g_ref5_Abs {w:World}{sa:Bool}{Aa:Option Addr}{na ca:Nat}{x:Int}{b:Nat}(hb:b≤w.heap.size) (hx:Zi w sa Aa na ca x) (la:na≤17179869183):
    Calls Tryz.prog 69 #[.agg #[.bool sa,.slice Aa na ca]] w (Gv w (ZR b ((Int.natAbs x:Int)))):=by
 refine Calls.mono (R:=Gv w (ZR w.heap.size ((Int.natAbs x:Int)))) ?_ (Gv.imp (ZR.imp hb))
 have Lx:ln x≤17179869183:=Nat.le_trans hx.ln la
 refine sx_enter Tryz.func69 rfl (n:=6) rfl (bq rfl) (args:= [.agg #[.bool sa,.slice Aa na ca]]) (cw_keep [(0,.agg #[.bool sa,.slice Aa na ca])] ⟨rfl,trivial⟩ (sr (bx [.bool sa,.slice Aa na ca] (Ext.refl w) rfl rfl rfl fun g1 v2 hb4 ge5 e3 hw1=>(alq [F0,S0] hw1 hb4.lt (fun _=>by kernel_rfl) rfl fun g6 v7 hb9 ge10 q11 e8 hw2=>(ne_ (sr (pf g1 1 rfl (by kernel_rfl) (wl_load rfl rfl (load_cell cellWords (hb4.ext e8) rfl) (by decide) ?_))))))))
 have L12:ln (sg false (Int.natAbs x))≤17179869183:=by rw [ln_sg];exact Lx
 refine cl (vs:= [F0,.slice Aa na ca]) hw2 (g_ref5_made hw2.size (hx.ext hw2).wi (lx_ la rfl)) rfl (by kernel_rfl) fun xr15 v13 r15 e14 hw3=>?_
 obtain⟨s16,A16,n16,c16,rfl,z16⟩:=r15
 have hb18:=(hb9.ext e14)
 refine so aggInt hb18 [.bool s16,.slice A16 n16 c16] hw3 ge10 rfl rfl rfl rfl fun v17 hb19 u20 hw4=>(ne_ (cw_ret (eo_ret [.agg #[.bool s16,.slice A16 n16 c16]] rfl ⟨⟨_,rfl,load_agg aggInt hb19 [.bool s16,.slice A16 n16 c16] rfl (bq rfl) rfl⟩,trivial⟩ ?_)))
 exact⟨_,rfl,⟨_,_,_,_,rfl,((z16.updT hb18 u20)).cast (rfl)⟩,hw4⟩
set_option maxHeartbeats 4000000 in
theorem g_ref5_Sign {w:World}{sa:Bool}{Aa:Option Addr}{na ca:Nat}{x:Int}(hx:Zi w sa Aa na ca x) (la:na≤17179869183):
    Calls Tryz.prog 70 #[.agg #[.bool sa,.slice Aa na ca]] w (Gv w (Is (.int .i64 (scmp x 0)))):=by
 have Lx:ln x≤17179869183:=Nat.le_trans hx.ln la
 refine sx_enter Tryz.func70 rfl (n:=12) rfl (bq rfl) (args:= [.agg #[.bool sa,.slice Aa na ca]]) (cw_keep [(0,.agg #[.bool sa,.slice Aa na ca])] ⟨rfl,trivial⟩ (sr (bx [.bool sa,.slice Aa na ca] (Ext.refl w) rfl rfl rfl fun g1 v2 hb4 ge5 e3 hw1=>(mv 1 rfl (ne_ (sr (lo aggInt hb4 [.bool sa,.slice Aa na ca] rfl rfl rfl (cl (vs:= [.agg #[.bool sa,.slice Aa na ca]]) hw1 (g_ref5_Least hw1.size (hx.ext hw1) (lx_ la rfl)) rfl (by kernel_rfl) fun xr8 v6 r8 e7 hw2=>?_))))))))
 obtain⟨s9,A9,n9,c9,rfl,z9⟩:=r8
 refine alq [F0,S0] hw2 (hb4.ext e7).lt (fun _=>by kernel_rfl) rfl fun g10 v11 hb13 ge14 q15 e12 hw3=>(so aggInt hb13 [.bool s9,.slice A9 n9 c9] hw3 ge14 rfl rfl rfl rfl fun v16 hb18 u19 hw4=>(ne_ (cw_seq (cw_seq ?_))))
 by_cases hx0:x<0
 · 
  obtain rfl:s9=true:=by rw [(((z9.ext e12).updT hb13 u19)).sgn];exact decide_eq_true hx0
  refine cw_region (pf g10 0 rfl (by kernel_rfl) (wl_load rfl rfl (load_cell cellBool hb18 rfl) (by decide) (ne_ (cw_true rfl (sr (mv 1 rfl (ne_ (cw_ret (eo_thenR (eo_ret [.int .i64 (-1)] rfl ⟨rfl,trivial⟩ ?_))))))))))
  exact⟨_,rfl,(show (.int .i64 (-1):Value)=Value.int .i64 (scmp x 0) by rw [scmp_m1 hx0]),hw4⟩
 · 
  obtain rfl:s9=false:=by rw [(((z9.ext e12).updT hb13 u19)).sgn];exact decide_eq_false hx0
  have hnl:n9=ln x:=(((z9.ext e12).updT hb13 u19)).len
  by_cases hxz:x=0
  · 
   have hn0:n9=0:=by rw [hnl,hxz];rfl
   refine cw_region (pf g10 0 rfl (by kernel_rfl) (wl_load rfl rfl (load_cell cellBool hb18 rfl) (by decide) (ne_ (cw_false rfl (cw_skip (eo_then (cw_seq (sr (pf g10 1 rfl (by kernel_rfl) (wl_load rfl rfl (load_cell cellWords hb18 rfl) (by decide) (pu (v:= .int .i64 ((n9:Nat):Int)) rfl (by kernel_rfl) (wl_cmp rfl rfl rfl false (gt_f (by omega)) (by decide) (wl_nil ?_)))))))))))))
   refine eo_then (cw_false rfl (cw_skip (eo_then (sr (mv 1 rfl (ne_ (cw_ret (eo_ret [I0] rfl ⟨rfl,trivial⟩ ?_))))))))
   exact⟨_,rfl,(show (.int .i64 0:Value)=Value.int .i64 (scmp x 0) by rw [scmp_z hxz]),hw4⟩
  · 
   have hn0:n9≠0:=fun e=>hxz (ln_eq_zero (by rw [←hnl,e]))
   refine cw_region (pf g10 0 rfl (by kernel_rfl) (wl_load rfl rfl (load_cell cellBool hb18 rfl) (by decide) (ne_ (cw_false rfl (cw_skip (eo_then (cw_seq (sr (pf g10 1 rfl (by kernel_rfl) (wl_load rfl rfl (load_cell cellWords hb18 rfl) (by decide) (pu (v:= .int .i64 ((n9:Nat):Int)) rfl (by kernel_rfl) (wl_cmp rfl rfl rfl true (gt_t (by omega)) (by decide) (wl_nil ?_)))))))))))))
   refine eo_then (cw_true rfl (sr (mv 1 rfl (ne_ (cw_ret (eo_thenR (eo_ret [.int .i64 1] rfl ⟨rfl,trivial⟩ ?_)))))))
   exact⟨_,rfl,(show (.int .i64 1:Value)=Value.int .i64 (scmp x 0) by rw [scmp_p1 (by omega)]),hw4⟩
set_option maxHeartbeats 4000000 in
theorem g_ref5_CmpAbs {w:World}{sa:Bool}{Aa:Option Addr}{na ca:Nat}{x:Int}{sb:Bool}{Ab:Option Addr}{nb cb:Nat}{y:Int}(hx:Zi w sa Aa na ca x) (la:na≤17179869183) (hy:Zi w sb Ab nb cb y) (lb:nb≤17179869183):
    Calls Tryz.prog 100 #[.agg #[.bool sa,.slice Aa na ca],.agg #[.bool sb,.slice Ab nb cb]] w (Gv w (Is (.int .i64 (cmp3 (Int.natAbs x) (Int.natAbs y))))):=by
 have Lx:ln x≤17179869183:=Nat.le_trans hx.ln la
 have Ly:ln y≤17179869183:=Nat.le_trans hy.ln lb
 refine sx_enter Tryz.func100 rfl (n:=10) rfl (bq rfl) (args:= [.agg #[.bool sa,.slice Aa na ca],.agg #[.bool sb,.slice Ab nb cb]]) (cw_keep [(0,.agg #[.bool sa,.slice Aa na ca]),(1,.agg #[.bool sb,.slice Ab nb cb])] ⟨rfl,rfl,trivial⟩ (sr (bx [.bool sa,.slice Aa na ca] (Ext.refl w) rfl rfl rfl fun g1 v2 hb4 ge5 e3 hw1=>(bxq [.bool sb,.slice Ab nb cb] hw1 hb4.lt rfl rfl rfl fun g6 v7 hb9 ge10 q11 e8 hw2=>(mv 1 rfl (ne_ (sr (pf g1 1 rfl (by kernel_rfl) (wl_load rfl rfl (load_cell cellWords (hb4.ext e8) rfl) (by decide) (pf g6 1 rfl (by kernel_rfl) (wl_load rfl rfl (load_cell cellWords hb9 rfl) (by decide) (cl (vs:= [.slice Aa na ca,.slice Ab nb cb]) hw2 (g_ref1_Cmp (hx.ext hw2).wi (lx_ la rfl) (hy.ext hw2).wi (lx_ lb rfl)) rfl (by kernel_rfl) fun xr14 v12 r14 e13 hw3=>?_))))))))))))
 obtain rfl:=r14
 refine mv 1 rfl (ne_ (cw_ret (eo_ret [.int .i64 (cmp3 (Int.natAbs x) (Int.natAbs y))] rfl ⟨rfl,trivial⟩ ?_)))
 exact⟨_,rfl,rfl,hw3⟩
set_option maxHeartbeats 4000000 in
theorem g_ref5_Cmp {w:World}{sa:Bool}{Aa:Option Addr}{na ca:Nat}{x:Int}{sb:Bool}{Ab:Option Addr}{nb cb:Nat}{y:Int}(hx:Zi w sa Aa na ca x) (la:na≤17179869183) (hy:Zi w sb Ab nb cb y) (lb:nb≤17179869183):
    Calls Tryz.prog 74 #[.agg #[.bool sa,.slice Aa na ca],.agg #[.bool sb,.slice Ab nb cb]] w (Gv w (Is (.int .i64 (scmp x y)))):=by
 have Lx:ln x≤17179869183:=Nat.le_trans hx.ln la
 have Ly:ln y≤17179869183:=Nat.le_trans hy.ln lb
 refine sx_enter Tryz.func74 rfl (n:=22) rfl (bq rfl) (args:= [.agg #[.bool sa,.slice Aa na ca],.agg #[.bool sb,.slice Ab nb cb]]) (cw_keep [(0,.agg #[.bool sa,.slice Aa na ca]),(1,.agg #[.bool sb,.slice Ab nb cb])] ⟨rfl,rfl,trivial⟩ (sr (bx [.bool sa,.slice Aa na ca] (Ext.refl w) rfl rfl rfl fun g1 v2 hb4 ge5 e3 hw1=>(bxq [.bool sb,.slice Ab nb cb] hw1 hb4.lt rfl rfl rfl fun g6 v7 hb9 ge10 q11 e8 hw2=>(mv 1 rfl (ne_ (sr (lo aggInt (hb4.ext e8) [.bool sa,.slice Aa na ca] rfl rfl rfl (cl (vs:= [.agg #[.bool sa,.slice Aa na ca]]) hw2 (g_ref5_Sign (hx.ext hw2) (lx_ la rfl)) rfl (by kernel_rfl) fun xr14 v12 r14 e13 hw3=>?_)))))))))
 obtain rfl:=r14
 refine mv 1 rfl (ne_ (sr (lo aggInt (hb9.ext e13) [.bool sb,.slice Ab nb cb] rfl rfl rfl (cl (vs:= [.agg #[.bool sb,.slice Ab nb cb]]) hw3 (g_ref5_Sign (hy.ext hw3) (lx_ lb rfl)) rfl (by kernel_rfl) fun xr17 v15 r17 e16 hw4=>?_))))
 obtain rfl:=r17
 refine mv 1 rfl (ne_ (cw_seq (cw_seq ?_)))
 by_cases hs:scmp x 0=scmp y 0
 · 
  refine cw_region (mv 2 rfl (wl_cmp rfl rfl rfl false (ne_f hs) (by decide) (ne_ (cw_false rfl (cw_skip (eo_then (sr (mv 1 rfl (lo aggInt (hb4.ext (e8.trans (e13.trans e16))) [.bool sa,.slice Aa na ca] rfl rfl rfl (lo aggInt (hb9.ext (e13.trans e16)) [.bool sb,.slice Ab nb cb] rfl rfl rfl (cl (vs:= [.agg #[.bool sa,.slice Aa na ca],.agg #[.bool sb,.slice Ab nb cb]]) hw4 (g_ref5_CmpAbs (hx.ext hw4) (lx_ la rfl) (hy.ext hw4) (lx_ lb rfl)) rfl (by kernel_rfl) fun xr20 v18 r20 e19 hw5=>?_)))))))))))
  obtain rfl:=r20
  refine wl_ar rfl rfl rfl (scmp x y) (ar_i64m (scmp_same hs) (scmp_i64 _ _).1 (scmp_i64 _ _).2) (by decide) (mv 1 rfl (ne_ (cw_ret (eo_ret [.int .i64 (scmp x y)] rfl ⟨rfl,trivial⟩ ?_))))
  exact⟨_,rfl,rfl,hw5⟩
 · 
  by_cases hl:scmp x 0<scmp y 0
  · 
   refine cw_region (mv 2 rfl (wl_cmp rfl rfl rfl true (ne_t hs) (by decide) (ne_ (cw_true rfl (cw_seq (sr (mv 2 rfl (wl_cmp rfl rfl rfl true (lt_t hl) (by decide) (ne_ (cw_true rfl (sr (mv 1 rfl (wl_nil ?_)))))))))))))
   refine eo_then (cw_ret (eo_thenR (eo_thenR (eo_ret [.int .i64 (-1)] rfl ⟨rfl,trivial⟩ ?_))))
   exact⟨_,rfl,(show (.int .i64 (-1):Value)=Value.int .i64 (scmp x y) by rw [scmp_diff_lt hl]),hw4⟩
  · 
   refine cw_region (mv 2 rfl (wl_cmp rfl rfl rfl true (ne_t hs) (by decide) (ne_ (cw_true rfl (cw_seq (sr (mv 2 rfl (wl_cmp rfl rfl rfl false (lt_f (by omega)) (by decide) (ne_ (cw_false rfl (cw_skip (eo_then (cw_seq ?_)))))))))))))
   refine cw_region (mv 1 rfl (ne_ (cw_ret (eo_thenR (eo_ret [.int .i64 1] rfl ⟨rfl,trivial⟩ ?_)))))
   exact⟨_,rfl,(show (.int .i64 1:Value)=Value.int .i64 (scmp x y) by rw [scmp_diff_gt (by omega)]),hw4⟩
set_option maxHeartbeats 4000000 in
theorem g_ref5_Add {w:World}{sa:Bool}{Aa:Option Addr}{na ca:Nat}{x:Int}{sb:Bool}{Ab:Option Addr}{nb cb:Nat}{y:Int}{b:Nat}(hb:b≤w.heap.size) (hx:Zi w sa Aa na ca x) (la:na≤17179869183) (hy:Zi w sb Ab nb cb y) (lb:nb≤17179869183):
    Calls Tryz.prog 77 #[.agg #[.bool sa,.slice Aa na ca],.agg #[.bool sb,.slice Ab nb cb]] w (Gv w (ZR b (x+y))):=by
 refine Calls.mono (R:=Gv w (ZR w.heap.size (x+y))) ?_ (Gv.imp (ZR.imp hb))
 have Lx:ln x≤17179869183:=Nat.le_trans hx.ln la
 have Ly:ln y≤17179869183:=Nat.le_trans hy.ln lb
 refine sx_enter Tryz.func77 rfl (n:=54) rfl (bq rfl) (args:= [.agg #[.bool sa,.slice Aa na ca],.agg #[.bool sb,.slice Ab nb cb]]) (cw_keep [(0,.agg #[.bool sa,.slice Aa na ca]),(1,.agg #[.bool sb,.slice Ab nb cb])] ⟨rfl,rfl,trivial⟩ (sr (bx [.bool sa,.slice Aa na ca] (Ext.refl w) rfl rfl rfl fun g1 v2 hb4 ge5 e3 hw1=>(bxq [.bool sb,.slice Ab nb cb] hw1 hb4.lt rfl rfl rfl fun g6 v7 hb9 ge10 q11 e8 hw2=>(alq [F0,S0] hw2 hb9.lt (fun _=>by kernel_rfl) rfl fun g12 v13 hb15 ge16 q17 e14 hw3=>(ne_ (cw_seq (cw_seq ?_))))))))
 by_cases hsa:sa=true
 · 
  subst hsa
  by_cases hsb:sb=true
  · 
   subst hsb
   refine cw_region (pf g1 0 rfl (by kernel_rfl) (wl_load rfl rfl (load_cell cellBool (hb4.ext (e8.trans e14)) rfl) (by decide) (pf g6 0 rfl (by kernel_rfl) (wl_load rfl rfl (load_cell cellBool (hb9.ext e14) rfl) (by decide) (pu (v:= .bool true) rfl (by kernel_rfl) (ne_ (cw_true rfl (sr (pf g1 1 rfl (by kernel_rfl) (wl_load rfl rfl (load_cell cellWords (hb4.ext (e8.trans e14)) rfl) (by decide) (pf g6 1 rfl (by kernel_rfl) (wl_load rfl rfl (load_cell cellWords (hb9.ext e14) rfl) (by decide) ?_))))))))))))
   have L18:(wd ((Int.natAbs x)+(Int.natAbs y))).length≤17179869184:=Nat.le_trans (len_wd_add _ _) (Nat.succ_le_succ (Nat.max_le.2 ⟨Nat.le_trans Lx (by decide),Nat.le_trans Ly (by decide)⟩))
   refine cl (vs:= [.slice Aa na ca,.slice Ab nb cb]) hw3 (g_ref1_Add hw3.size (hx.ext hw3).wi (lx_ la rfl) (hy.ext hw3).wi (lx_ lb rfl)) rfl (by kernel_rfl) fun xr21 v19 r21 e20 hw4=>?_
   obtain⟨A22,n22,c22,rfl,j22,o22⟩:=r21
   refine mv 1 rfl (ne_ (sr (pf g1 0 rfl (by kernel_rfl) (wl_load rfl rfl (load_cell cellBool (hb4.ext (e8.trans (e14.trans e20))) rfl) (by decide) (mv 1 rfl ?_)))))
   have L23:ln (sg true ((Int.natAbs x)+(Int.natAbs y)))≤17179869184:=by rw [ln_sg];exact L18
   refine cl (vs:= [.bool true,.slice A22 n22 c22]) hw4 (g_ref5_made hw4.size o22.wi (by rw [j22];exact Nat.le_trans L18 (by decide))) rfl (by kernel_rfl) fun xr26 v24 r26 e25 hw5=>?_
   obtain⟨s27,A27,n27,c27,rfl,z27⟩:=r26
   have hb29:=(hb15.ext (e20.trans e25))
   refine so aggInt hb29 [.bool s27,.slice A27 n27 c27] hw5 ge16 rfl rfl rfl rfl fun v28 hb30 u31 hw6=>(ne_ (cw_ret (eo_thenR (eo_ret [.agg #[.bool s27,.slice A27 n27 c27]] rfl ⟨⟨_,rfl,load_agg aggInt hb30 [.bool s27,.slice A27 n27 c27] rfl (bq rfl) rfl⟩,trivial⟩ ?_))))
   exact⟨_,rfl,⟨_,_,_,_,rfl,((z27.updT hb29 u31)).cast (by rw [sg_add,hx.sg,hy.sg])⟩,hw6⟩
  · 
   replace hsb:sb=false:=by simpa using hsb
   subst hsb
   refine cw_region (pf g1 0 rfl (by kernel_rfl) (wl_load rfl rfl (load_cell cellBool (hb4.ext (e8.trans e14)) rfl) (by decide) (pf g6 0 rfl (by kernel_rfl) (wl_load rfl rfl (load_cell cellBool (hb9.ext e14) rfl) (by decide) (pu (v:= .bool false) rfl (by kernel_rfl) (ne_ (cw_false rfl (cw_skip (eo_then (cw_seq (cw_seq ?_)))))))))))
   by_cases hxy:Int.natAbs y≤Int.natAbs x
   · 
    refine cw_region (pf g1 1 rfl (by kernel_rfl) (wl_load rfl rfl (load_cell cellWords (hb4.ext (e8.trans e14)) rfl) (by decide) (pf g6 1 rfl (by kernel_rfl) (wl_load rfl rfl (load_cell cellWords (hb9.ext e14) rfl) (by decide) (cl (vs:= [.slice Aa na ca,.slice Ab nb cb]) hw3 (g_ref1_Cmp (hx.ext hw3).wi (lx_ la rfl) (hy.ext hw3).wi (lx_ lb rfl)) rfl (by kernel_rfl) fun xr35 v33 r35 e34 hw4=>?_)))))
    obtain rfl:=r35
    refine wl_cmp rfl rfl rfl true (cmp3_ge_t hxy) (by decide) (ne_ (cw_true rfl (sr (pf g1 1 rfl (by kernel_rfl) (wl_load rfl rfl (load_cell cellWords (hb4.ext (e8.trans (e14.trans e34))) rfl) (by decide) (pf g6 1 rfl (by kernel_rfl) (wl_load rfl rfl (load_cell cellWords (hb9.ext (e14.trans e34)) rfl) (by decide) ?_)))))))
    have L36:(wd ((Int.natAbs x)-(Int.natAbs y))).length≤17179869183:=Nat.le_trans (len_wd_mono (Nat.sub_le _ _)) Lx
    refine cl (vs:= [.slice Aa na ca,.slice Ab nb cb]) hw4 (g_ref1_Sub hw4.size (hx.ext hw4).wi (lx_ la rfl) (hy.ext hw4).wi (lx_ lb rfl) hxy) rfl (by kernel_rfl) fun xr39 v37 r39 e38 hw5=>?_
    obtain⟨_,_,rfl,⟨A41,n41,c41,rfl,j41,o41⟩,rfl⟩:=r39
    refine mv 1 rfl (pu (v:= .slice A41 n41 c41) rfl (by kernel_rfl) (pu (v:= .int .i64 0) rfl (by kernel_rfl) (mv 2 rfl (ne_ (sr (pf g1 0 rfl (by kernel_rfl) (wl_load rfl rfl (load_cell cellBool (hb4.ext (e8.trans (e14.trans (e34.trans e38)))) rfl) (by decide) (mv 1 rfl ?_))))))))
    have L42:ln (sg true ((Int.natAbs x)-(Int.natAbs y)))≤17179869183:=by rw [ln_sg];exact L36
    refine cl (vs:= [.bool true,.slice A41 n41 c41]) hw5 (g_ref5_made hw5.size o41.wi (by rw [j41];exact Nat.le_trans L36 (by decide))) rfl (by kernel_rfl) fun xr45 v43 r45 e44 hw6=>?_
    obtain⟨s46,A46,n46,c46,rfl,z46⟩:=r45
    have hb48:=(hb15.ext (e34.trans (e38.trans e44)))
    refine so aggInt hb48 [.bool s46,.slice A46 n46 c46] hw6 ge16 rfl rfl rfl rfl fun v47 hb49 u50 hw7=>(ne_ (cw_ret (eo_thenR (eo_ret [.agg #[.bool s46,.slice A46 n46 c46]] rfl ⟨⟨_,rfl,load_agg aggInt hb49 [.bool s46,.slice A46 n46 c46] rfl (bq rfl) rfl⟩,trivial⟩ ?_))))
    exact⟨_,rfl,⟨_,_,_,_,rfl,((z46.updT hb48 u50)).cast (by rw [sg_sub hxy];show sg true _+sg false _=_;rw [hx.sg,hy.sg])⟩,hw7⟩
   · 
    refine cw_region (pf g1 1 rfl (by kernel_rfl) (wl_load rfl rfl (load_cell cellWords (hb4.ext (e8.trans e14)) rfl) (by decide) (pf g6 1 rfl (by kernel_rfl) (wl_load rfl rfl (load_cell cellWords (hb9.ext e14) rfl) (by decide) (cl (vs:= [.slice Aa na ca,.slice Ab nb cb]) hw3 (g_ref1_Cmp (hx.ext hw3).wi (lx_ la rfl) (hy.ext hw3).wi (lx_ lb rfl)) rfl (by kernel_rfl) fun xr54 v52 r54 e53 hw4=>?_)))))
    obtain rfl:=r54
    refine wl_cmp rfl rfl rfl false (cmp3_ge_f hxy) (by decide) (ne_ (cw_false rfl (cw_skip (eo_then (sr (pf g6 1 rfl (by kernel_rfl) (wl_load rfl rfl (load_cell cellWords (hb9.ext (e14.trans e53)) rfl) (by decide) (pf g1 1 rfl (by kernel_rfl) (wl_load rfl rfl (load_cell cellWords (hb4.ext (e8.trans (e14.trans e53))) rfl) (by decide) ?_)))))))))
    have L55:(wd ((Int.natAbs y)-(Int.natAbs x))).length≤17179869183:=Nat.le_trans (len_wd_mono (Nat.sub_le _ _)) Ly
    refine cl (vs:= [.slice Ab nb cb,.slice Aa na ca]) hw4 (g_ref1_Sub hw4.size (hy.ext hw4).wi (lx_ lb rfl) (hx.ext hw4).wi (lx_ la rfl) (by omega)) rfl (by kernel_rfl) fun xr58 v56 r58 e57 hw5=>?_
    obtain⟨_,_,rfl,⟨A60,n60,c60,rfl,j60,o60⟩,rfl⟩:=r58
    refine mv 1 rfl (pu (v:= .slice A60 n60 c60) rfl (by kernel_rfl) (pu (v:= .int .i64 0) rfl (by kernel_rfl) (mv 2 rfl (ne_ (sr (pf g6 0 rfl (by kernel_rfl) (wl_load rfl rfl (load_cell cellBool (hb9.ext (e14.trans (e53.trans e57))) rfl) (by decide) (mv 1 rfl ?_))))))))
    have L61:ln (sg false ((Int.natAbs y)-(Int.natAbs x)))≤17179869183:=by rw [ln_sg];exact L55
    refine cl (vs:= [F0,.slice A60 n60 c60]) hw5 (g_ref5_made hw5.size o60.wi (by rw [j60];exact Nat.le_trans L55 (by decide))) rfl (by kernel_rfl) fun xr64 v62 r64 e63 hw6=>?_
    obtain⟨s65,A65,n65,c65,rfl,z65⟩:=r64
    have hb67:=(hb15.ext (e53.trans (e57.trans e63)))
    refine so aggInt hb67 [.bool s65,.slice A65 n65 c65] hw6 ge16 rfl rfl rfl rfl fun v66 hb68 u69 hw7=>(ne_ (cw_ret (eo_ret [.agg #[.bool s65,.slice A65 n65 c65]] rfl ⟨⟨_,rfl,load_agg aggInt hb68 [.bool s65,.slice A65 n65 c65] rfl (bq rfl) rfl⟩,trivial⟩ ?_)))
    exact⟨_,rfl,⟨_,_,_,_,rfl,((z65.updT hb67 u69)).cast (by rw [sg_sub (by omega)];show sg false _+sg true _=_;rw [hx.sg,hy.sg,Int.add_comm])⟩,hw7⟩
 · 
  replace hsa:sa=false:=by simpa using hsa
  subst hsa
  by_cases hsb:sb=true
  · 
   subst hsb
   refine cw_region (pf g1 0 rfl (by kernel_rfl) (wl_load rfl rfl (load_cell cellBool (hb4.ext (e8.trans e14)) rfl) (by decide) (pf g6 0 rfl (by kernel_rfl) (wl_load rfl rfl (load_cell cellBool (hb9.ext e14) rfl) (by decide) (pu (v:= .bool false) rfl (by kernel_rfl) (ne_ (cw_false rfl (cw_skip (eo_then (cw_seq (cw_seq ?_)))))))))))
   by_cases hxy:Int.natAbs y≤Int.natAbs x
   · 
    refine cw_region (pf g1 1 rfl (by kernel_rfl) (wl_load rfl rfl (load_cell cellWords (hb4.ext (e8.trans e14)) rfl) (by decide) (pf g6 1 rfl (by kernel_rfl) (wl_load rfl rfl (load_cell cellWords (hb9.ext e14) rfl) (by decide) (cl (vs:= [.slice Aa na ca,.slice Ab nb cb]) hw3 (g_ref1_Cmp (hx.ext hw3).wi (lx_ la rfl) (hy.ext hw3).wi (lx_ lb rfl)) rfl (by kernel_rfl) fun xr73 v71 r73 e72 hw4=>?_)))))
    obtain rfl:=r73
    refine wl_cmp rfl rfl rfl true (cmp3_ge_t hxy) (by decide) (ne_ (cw_true rfl (sr (pf g1 1 rfl (by kernel_rfl) (wl_load rfl rfl (load_cell cellWords (hb4.ext (e8.trans (e14.trans e72))) rfl) (by decide) (pf g6 1 rfl (by kernel_rfl) (wl_load rfl rfl (load_cell cellWords (hb9.ext (e14.trans e72)) rfl) (by decide) ?_)))))))
    have L74:(wd ((Int.natAbs x)-(Int.natAbs y))).length≤17179869183:=Nat.le_trans (len_wd_mono (Nat.sub_le _ _)) Lx
    refine cl (vs:= [.slice Aa na ca,.slice Ab nb cb]) hw4 (g_ref1_Sub hw4.size (hx.ext hw4).wi (lx_ la rfl) (hy.ext hw4).wi (lx_ lb rfl) hxy) rfl (by kernel_rfl) fun xr77 v75 r77 e76 hw5=>?_
    obtain⟨_,_,rfl,⟨A79,n79,c79,rfl,j79,o79⟩,rfl⟩:=r77
    refine mv 1 rfl (pu (v:= .slice A79 n79 c79) rfl (by kernel_rfl) (pu (v:= .int .i64 0) rfl (by kernel_rfl) (mv 2 rfl (ne_ (sr (pf g1 0 rfl (by kernel_rfl) (wl_load rfl rfl (load_cell cellBool (hb4.ext (e8.trans (e14.trans (e72.trans e76)))) rfl) (by decide) (mv 1 rfl ?_))))))))
    have L80:ln (sg false ((Int.natAbs x)-(Int.natAbs y)))≤17179869183:=by rw [ln_sg];exact L74
    refine cl (vs:= [F0,.slice A79 n79 c79]) hw5 (g_ref5_made hw5.size o79.wi (by rw [j79];exact Nat.le_trans L74 (by decide))) rfl (by kernel_rfl) fun xr83 v81 r83 e82 hw6=>?_
    obtain⟨s84,A84,n84,c84,rfl,z84⟩:=r83
    have hb86:=(hb15.ext (e72.trans (e76.trans e82)))
    refine so aggInt hb86 [.bool s84,.slice A84 n84 c84] hw6 ge16 rfl rfl rfl rfl fun v85 hb87 u88 hw7=>(ne_ (cw_ret (eo_thenR (eo_ret [.agg #[.bool s84,.slice A84 n84 c84]] rfl ⟨⟨_,rfl,load_agg aggInt hb87 [.bool s84,.slice A84 n84 c84] rfl (bq rfl) rfl⟩,trivial⟩ ?_))))
    exact⟨_,rfl,⟨_,_,_,_,rfl,((z84.updT hb86 u88)).cast (by rw [sg_sub hxy];show sg false _+sg true _=_;rw [hx.sg,hy.sg])⟩,hw7⟩
   · 
    refine cw_region (pf g1 1 rfl (by kernel_rfl) (wl_load rfl rfl (load_cell cellWords (hb4.ext (e8.trans e14)) rfl) (by decide) (pf g6 1 rfl (by kernel_rfl) (wl_load rfl rfl (load_cell cellWords (hb9.ext e14) rfl) (by decide) (cl (vs:= [.slice Aa na ca,.slice Ab nb cb]) hw3 (g_ref1_Cmp (hx.ext hw3).wi (lx_ la rfl) (hy.ext hw3).wi (lx_ lb rfl)) rfl (by kernel_rfl) fun xr92 v90 r92 e91 hw4=>?_)))))
    obtain rfl:=r92
    refine wl_cmp rfl rfl rfl false (cmp3_ge_f hxy) (by decide) (ne_ (cw_false rfl (cw_skip (eo_then (sr (pf g6 1 rfl (by kernel_rfl) (wl_load rfl rfl (load_cell cellWords (hb9.ext (e14.trans e91)) rfl) (by decide) (pf g1 1 rfl (by kernel_rfl) (wl_load rfl rfl (load_cell cellWords (hb4.ext (e8.trans (e14.trans e91))) rfl) (by decide) ?_)))))))))
    have L93:(wd ((Int.natAbs y)-(Int.natAbs x))).length≤17179869183:=Nat.le_trans (len_wd_mono (Nat.sub_le _ _)) Ly
    refine cl (vs:= [.slice Ab nb cb,.slice Aa na ca]) hw4 (g_ref1_Sub hw4.size (hy.ext hw4).wi (lx_ lb rfl) (hx.ext hw4).wi (lx_ la rfl) (by omega)) rfl (by kernel_rfl) fun xr96 v94 r96 e95 hw5=>?_
    obtain⟨_,_,rfl,⟨A98,n98,c98,rfl,j98,o98⟩,rfl⟩:=r96
    refine mv 1 rfl (pu (v:= .slice A98 n98 c98) rfl (by kernel_rfl) (pu (v:= .int .i64 0) rfl (by kernel_rfl) (mv 2 rfl (ne_ (sr (pf g6 0 rfl (by kernel_rfl) (wl_load rfl rfl (load_cell cellBool (hb9.ext (e14.trans (e91.trans e95))) rfl) (by decide) (mv 1 rfl ?_))))))))
    have L99:ln (sg true ((Int.natAbs y)-(Int.natAbs x)))≤17179869183:=by rw [ln_sg];exact L93
    refine cl (vs:= [.bool true,.slice A98 n98 c98]) hw5 (g_ref5_made hw5.size o98.wi (by rw [j98];exact Nat.le_trans L93 (by decide))) rfl (by kernel_rfl) fun xr102 v100 r102 e101 hw6=>?_
    obtain⟨s103,A103,n103,c103,rfl,z103⟩:=r102
    have hb105:=(hb15.ext (e91.trans (e95.trans e101)))
    refine so aggInt hb105 [.bool s103,.slice A103 n103 c103] hw6 ge16 rfl rfl rfl rfl fun v104 hb106 u107 hw7=>(ne_ (cw_ret (eo_ret [.agg #[.bool s103,.slice A103 n103 c103]] rfl ⟨⟨_,rfl,load_agg aggInt hb106 [.bool s103,.slice A103 n103 c103] rfl (bq rfl) rfl⟩,trivial⟩ ?_)))
    exact⟨_,rfl,⟨_,_,_,_,rfl,((z103.updT hb105 u107)).cast (by rw [sg_sub (by omega)];show sg true _+sg false _=_;rw [hx.sg,hy.sg,Int.add_comm])⟩,hw7⟩
  · 
   replace hsb:sb=false:=by simpa using hsb
   subst hsb
   refine cw_region (pf g1 0 rfl (by kernel_rfl) (wl_load rfl rfl (load_cell cellBool (hb4.ext (e8.trans e14)) rfl) (by decide) (pf g6 0 rfl (by kernel_rfl) (wl_load rfl rfl (load_cell cellBool (hb9.ext e14) rfl) (by decide) (pu (v:= .bool true) rfl (by kernel_rfl) (ne_ (cw_true rfl (sr (pf g1 1 rfl (by kernel_rfl) (wl_load rfl rfl (load_cell cellWords (hb4.ext (e8.trans e14)) rfl) (by decide) (pf g6 1 rfl (by kernel_rfl) (wl_load rfl rfl (load_cell cellWords (hb9.ext e14) rfl) (by decide) ?_))))))))))))
   have L109:(wd ((Int.natAbs x)+(Int.natAbs y))).length≤17179869184:=Nat.le_trans (len_wd_add _ _) (Nat.succ_le_succ (Nat.max_le.2 ⟨Nat.le_trans Lx (by decide),Nat.le_trans Ly (by decide)⟩))
   refine cl (vs:= [.slice Aa na ca,.slice Ab nb cb]) hw3 (g_ref1_Add hw3.size (hx.ext hw3).wi (lx_ la rfl) (hy.ext hw3).wi (lx_ lb rfl)) rfl (by kernel_rfl) fun xr112 v110 r112 e111 hw4=>?_
   obtain⟨A113,n113,c113,rfl,j113,o113⟩:=r112
   refine mv 1 rfl (ne_ (sr (pf g1 0 rfl (by kernel_rfl) (wl_load rfl rfl (load_cell cellBool (hb4.ext (e8.trans (e14.trans e111))) rfl) (by decide) (mv 1 rfl ?_)))))
   have L114:ln (sg false ((Int.natAbs x)+(Int.natAbs y)))≤17179869184:=by rw [ln_sg];exact L109
   refine cl (vs:= [F0,.slice A113 n113 c113]) hw4 (g_ref5_made hw4.size o113.wi (by rw [j113];exact Nat.le_trans L109 (by decide))) rfl (by kernel_rfl) fun xr117 v115 r117 e116 hw5=>?_
   obtain⟨s118,A118,n118,c118,rfl,z118⟩:=r117
   have hb120:=(hb15.ext (e111.trans e116))
   refine so aggInt hb120 [.bool s118,.slice A118 n118 c118] hw5 ge16 rfl rfl rfl rfl fun v119 hb121 u122 hw6=>(ne_ (cw_ret (eo_thenR (eo_ret [.agg #[.bool s118,.slice A118 n118 c118]] rfl ⟨⟨_,rfl,load_agg aggInt hb121 [.bool s118,.slice A118 n118 c118] rfl (bq rfl) rfl⟩,trivial⟩ ?_))))
   exact⟨_,rfl,⟨_,_,_,_,rfl,((z118.updT hb120 u122)).cast (by rw [sg_add,hx.sg,hy.sg])⟩,hw6⟩
set_option maxHeartbeats 4000000 in
theorem g_ref5_Sub {w:World}{sa:Bool}{Aa:Option Addr}{na ca:Nat}{x:Int}{sb:Bool}{Ab:Option Addr}{nb cb:Nat}{y:Int}{b:Nat}(hb:b≤w.heap.size) (hx:Zi w sa Aa na ca x) (la:na≤17179869183) (hy:Zi w sb Ab nb cb y) (lb:nb≤17179869183):
    Calls Tryz.prog 73 #[.agg #[.bool sa,.slice Aa na ca],.agg #[.bool sb,.slice Ab nb cb]] w (Gv w (ZR b (x-y))):=by
 refine Calls.mono (R:=Gv w (ZR w.heap.size (x-y))) ?_ (Gv.imp (ZR.imp hb))
 have Lx:ln x≤17179869183:=Nat.le_trans hx.ln la
 have Ly:ln y≤17179869183:=Nat.le_trans hy.ln lb
 refine sx_enter Tryz.func73 rfl (n:=13) rfl (bq rfl) (args:= [.agg #[.bool sa,.slice Aa na ca],.agg #[.bool sb,.slice Ab nb cb]]) (cw_keep [(0,.agg #[.bool sa,.slice Aa na ca]),(1,.agg #[.bool sb,.slice Ab nb cb])] ⟨rfl,rfl,trivial⟩ (sr (bx [.bool sa,.slice Aa na ca] (Ext.refl w) rfl rfl rfl fun g1 v2 hb4 ge5 e3 hw1=>(bxq [.bool sb,.slice Ab nb cb] hw1 hb4.lt rfl rfl rfl fun g6 v7 hb9 ge10 q11 e8 hw2=>(alq [F0,S0] hw2 hb9.lt (fun _=>by kernel_rfl) rfl fun g12 v13 hb15 ge16 q17 e14 hw3=>(ne_ (sr (lo aggInt (hb4.ext (e8.trans e14)) [.bool sa,.slice Aa na ca] rfl rfl rfl (pf g6 0 rfl (by kernel_rfl) (wl_load rfl rfl (load_cell cellBool (hb9.ext e14) rfl) (by decide) (pu (v:= .bool (!sb)) rfl (by kernel_rfl) (pf g6 1 rfl (by kernel_rfl) (wl_load rfl rfl (load_cell cellWords (hb9.ext e14) rfl) (by decide) ?_)))))))))))))
 refine pu (v:= .agg #[.bool (!sb),.slice Ab nb cb]) rfl (by kernel_rfl) ?_
 have L18:ln (x+(-y))≤17179869184:=Nat.le_trans (ln_add Lx (show ln (-y)≤17179869183 by rw [ln_neg];exact Ly)) (by decide)
 refine cl (vs:= [.agg #[.bool sa,.slice Aa na ca],.agg #[.bool (!sb),.slice Ab nb cb]]) hw3 (g_ref5_Add hw3.size (hx.ext hw3) (lx_ la rfl) (hy.ext hw3).not (lx_ lb rfl)) rfl (by kernel_rfl) fun xr21 v19 r21 e20 hw4=>?_
 obtain⟨s22,A22,n22,c22,rfl,z22⟩:=r21
 have hb24:=(hb15.ext e20)
 refine so aggInt hb24 [.bool s22,.slice A22 n22 c22] hw4 ge16 rfl rfl rfl rfl fun v23 hb25 u26 hw5=>(ne_ (cw_ret (eo_ret [.agg #[.bool s22,.slice A22 n22 c22]] rfl ⟨⟨_,rfl,load_agg aggInt hb25 [.bool s22,.slice A22 n22 c22] rfl (bq rfl) rfl⟩,trivial⟩ ?_)))
 exact⟨_,rfl,⟨_,_,_,_,rfl,((z22.updT hb24 u26)).cast (by omega)⟩,hw5⟩
set_option maxHeartbeats 4000000 in
theorem g_ref5_Mul {w:World}{sa:Bool}{Aa:Option Addr}{na ca:Nat}{x:Int}{sb:Bool}{Ab:Option Addr}{nb cb:Nat}{y:Int}{b:Nat}(hb:b≤w.heap.size) (hx:Zi w sa Aa na ca x) (la:na≤17179869183) (hy:Zi w sb Ab nb cb y) (lb:nb≤17179869183):
    Calls Tryz.prog 67 #[.agg #[.bool sa,.slice Aa na ca],.agg #[.bool sb,.slice Ab nb cb]] w (Gv w (ZR b (x*y))):=by
 refine Calls.mono (R:=Gv w (ZR w.heap.size (x*y))) ?_ (Gv.imp (ZR.imp hb))
 have Lx:ln x≤17179869183:=Nat.le_trans hx.ln la
 have Ly:ln y≤17179869183:=Nat.le_trans hy.ln lb
 refine sx_enter Tryz.func67 rfl (n:=18) rfl (bq rfl) (args:= [.agg #[.bool sa,.slice Aa na ca],.agg #[.bool sb,.slice Ab nb cb]]) (cw_keep [(0,.agg #[.bool sa,.slice Aa na ca]),(1,.agg #[.bool sb,.slice Ab nb cb])] ⟨rfl,rfl,trivial⟩ (sr (bx [.bool sa,.slice Aa na ca] (Ext.refl w) rfl rfl rfl fun g1 v2 hb4 ge5 e3 hw1=>(bxq [.bool sb,.slice Ab nb cb] hw1 hb4.lt rfl rfl rfl fun g6 v7 hb9 ge10 q11 e8 hw2=>(alq [F0,S0] hw2 hb9.lt (fun _=>by kernel_rfl) rfl fun g12 v13 hb15 ge16 q17 e14 hw3=>(ne_ (sr (pf g1 1 rfl (by kernel_rfl) (wl_load rfl rfl (load_cell cellWords (hb4.ext (e8.trans e14)) rfl) (by decide) (pf g6 1 rfl (by kernel_rfl) (wl_load rfl rfl (load_cell cellWords (hb9.ext e14) rfl) (by decide) ?_)))))))))))
 have L18:(wd ((Int.natAbs x)*(Int.natAbs y))).length≤34359738366:=Nat.le_trans (len_wd_mul _ _) (Nat.add_le_add Lx Ly)
 refine cl (vs:= [.slice Aa na ca,.slice Ab nb cb]) hw3 (g_ref2_Mul hw3.size (hx.ext hw3).wi (lx_ la rfl) (hy.ext hw3).wi (lx_ lb rfl)) rfl (by kernel_rfl) fun xr21 v19 r21 e20 hw4=>?_
 obtain⟨A22,n22,c22,rfl,j22,o22⟩:=r21
 refine mv 1 rfl (ne_ (sr (pf g1 0 rfl (by kernel_rfl) (wl_load rfl rfl (load_cell cellBool (hb4.ext (e8.trans (e14.trans e20))) rfl) (by decide) (pf g6 0 rfl (by kernel_rfl) (wl_load rfl rfl (load_cell cellBool (hb9.ext (e14.trans e20)) rfl) (by decide) (pu (v:= .bool (!(sa==sb))) rfl (by kernel_rfl) (mv 1 rfl ?_))))))))
 have L23:ln (sg (!(sa==sb)) ((Int.natAbs x)*(Int.natAbs y)))≤34359738366:=by rw [ln_sg];exact L18
 refine cl (vs:= [.bool (!(sa==sb)),.slice A22 n22 c22]) hw4 (g_ref5_made hw4.size o22.wi (by rw [j22];exact Nat.le_trans L18 (by decide))) rfl (by kernel_rfl) fun xr26 v24 r26 e25 hw5=>?_
 obtain⟨s27,A27,n27,c27,rfl,z27⟩:=r26
 have hb29:=(hb15.ext (e20.trans e25))
 refine so aggInt hb29 [.bool s27,.slice A27 n27 c27] hw5 ge16 rfl rfl rfl rfl fun v28 hb30 u31 hw6=>(ne_ (cw_ret (eo_ret [.agg #[.bool s27,.slice A27 n27 c27]] rfl ⟨⟨_,rfl,load_agg aggInt hb30 [.bool s27,.slice A27 n27 c27] rfl (bq rfl) rfl⟩,trivial⟩ ?_)))
 exact⟨_,rfl,⟨_,_,_,_,rfl,((z27.updT hb29 u31)).cast ((sg_mul _ _ _ _).trans (by rw [hx.sg,hy.sg]))⟩,hw6⟩
set_option maxHeartbeats 4000000 in
theorem g_ref5_Trunc {w:World}{sa:Bool}{Aa:Option Addr}{na ca:Nat}{x:Int}{sb:Bool}{Ab:Option Addr}{nb cb:Nat}{y:Int}{b:Nat}(hb:b≤w.heap.size) (hx:Zi w sa Aa na ca x) (la:na≤17179869183) (hy:Zi w sb Ab nb cb y) (lb:nb≤17179869183) (h0:y≠0):
    Calls Tryz.prog 98 #[.agg #[.bool sa,.slice Aa na ca],.agg #[.bool sb,.slice Ab nb cb]] w (Gv w (T3 (ZR b (x.tdiv y)) (ZR b (x.tmod y)) (Is (.int .i64 0)))):=by
 refine Calls.mono (R:=Gv w (T3 (ZR w.heap.size (x.tdiv y)) (ZR w.heap.size (x.tmod y)) (Is (.int .i64 0)))) ?_ (Gv.imp (T3.imp (ZR.imp hb) (ZR.imp hb) Is.imp))
 have Lx:ln x≤17179869183:=Nat.le_trans hx.ln la
 have Ly:ln y≤17179869183:=Nat.le_trans hy.ln lb
 have hy0:Int.natAbs y≠0:=by omega
 refine sx_enter Tryz.func98 rfl (n:=34) rfl (bq rfl) (args:= [.agg #[.bool sa,.slice Aa na ca],.agg #[.bool sb,.slice Ab nb cb]]) (cw_keep [(0,.agg #[.bool sa,.slice Aa na ca]),(1,.agg #[.bool sb,.slice Ab nb cb])] ⟨rfl,rfl,trivial⟩ (sr (bx [.bool sa,.slice Aa na ca] (Ext.refl w) rfl rfl rfl fun g1 v2 hb4 ge5 e3 hw1=>(bxq [.bool sb,.slice Ab nb cb] hw1 hb4.lt rfl rfl rfl fun g6 v7 hb9 ge10 q11 e8 hw2=>(alq [F0,S0] hw2 hb9.lt (fun _=>by kernel_rfl) rfl fun g12 v13 hb15 ge16 q17 e14 hw3=>(alq [F0,S0] hw3 hb15.lt (fun _=>by kernel_rfl) rfl fun g18 v19 hb21 ge22 q23 e20 hw4=>(mv 1 rfl (ne_ (sr (pf g1 1 rfl (by kernel_rfl) (wl_load rfl rfl (load_cell cellWords (hb4.ext (e8.trans (e14.trans e20))) rfl) (by decide) (pf g6 1 rfl (by kernel_rfl) (wl_load rfl rfl (load_cell cellWords (hb9.ext (e14.trans e20)) rfl) (by decide) ?_)))))))))))))
 have L24:(wd ((Int.natAbs x)/(Int.natAbs y))).length≤17179869183:=Nat.le_trans (len_wd_mono (Nat.div_le_self _ _)) Lx
 have L25:(wd ((Int.natAbs x)%(Int.natAbs y))).length≤17179869183:=Nat.le_trans (len_wd_mono (Nat.mod_le _ _)) Lx
 refine cl (vs:= [.slice Aa na ca,.slice Ab nb cb]) hw4 (g_ref3_DivMod hw4.size (hx.ext hw4).wi (lx_ la rfl) (hy.ext hw4).wi (lx_ lb rfl) hy0) rfl (by kernel_rfl) fun xr28 v26 r28 e27 hw5=>?_
 obtain⟨_,_,_,rfl,⟨A30,n30,c30,rfl,j30,o30⟩,⟨A31,n31,c31,rfl,j31,o31⟩,rfl⟩:=r28
 refine mv 1 rfl (pu (v:= .slice A30 n30 c30) rfl (by kernel_rfl) (pu (v:= .slice A31 n31 c31) rfl (by kernel_rfl) (pu (v:= .int .i64 0) rfl (by kernel_rfl) (mv 3 rfl (ne_ (cw_seq (sr (mv 1 rfl (pu (v:= .bool false) rfl (by kernel_rfl) (ne_ (cw_false rfl (cw_skip (eo_then ?_)))))))))))))
 refine cw_seq ?_
 have L32:ln (sg (!(sa==sb)) ((Int.natAbs x)/(Int.natAbs y)))≤17179869183:=by rw [ln_sg];exact L24
 have L34:ln (sg sa ((Int.natAbs x)%(Int.natAbs y)))≤17179869183:=by rw [ln_sg];exact L25
 refine cw_draw mix 11 [] [Is (.pointer (some ⟨g1,0,none⟩)),Is (.bool sa),Is (.pointer (some ⟨g6,0,none⟩)),Is (.bool sb),Is (.bool (!(sa==sb))),Is (.slice A30 n30 c30),ZR w.heap.size (sg (!(sa==sb)) ((Int.natAbs x)/(Int.natAbs y))),Is (.pointer (some ⟨g1,0,none⟩)),Is (.bool sa),Is (.slice A31 n31 c31),ZR w.heap.size (sg sa ((Int.natAbs x)%(Int.natAbs y)))] [[],[0],[],[2],[1,3],[],[4,5],[],[7],[],[8,9]] [[],[0],[],[2],[0,1,2,3],[],[0,1,2,3,4,5],[],[7],[],[0,1,2,3,4,5,6,7,8,9],[0,1,2,3,4,5,6,7,8,9,10],[0,1,2,3,4,5,6,7,8,9,10,11],[0,1,2,3,4,5,6,7,8,9,10,11,12]] rfl
  (obs_cons rfl rfl (hob rfl rfl ?_) (obs_cons rfl rfl (hob rfl rfl ?_) (obs_cons rfl rfl (hob rfl rfl ?_) (obs_cons rfl rfl (hob rfl rfl ?_) (obs_cons rfl rfl (hob rfl rfl ?_) (obs_cons rfl rfl (hob rfl rfl ?_) (obs_cons rfl rfl (hob rfl rfl ?_) (obs_cons rfl rfl (hob rfl rfl ?_) (obs_cons rfl rfl (hob rfl rfl ?_) (obs_cons rfl rfl (hob rfl rfl ?_) (obs_cons rfl rfl (hob rfl rfl ?_) obs_nil))))))))))) ?_
 · 
  exact fun _ _=>deps_nil (pf g1 0 rfl (by kernel_rfl) (pi_done rfl (Ext.refl _) rfl))
 · 
  exact fun _ e39=>dk rfl rfl (deps_nil (wl_load rfl rfl (load_cell cellBool (hb4.ext (e8.trans (e14.trans (e20.trans (e27.trans e39))))) rfl) (by decide) (pi_done rfl (Ext.refl _) rfl)))
 · 
  exact fun _ _=>deps_nil (pf g6 0 rfl (by kernel_rfl) (pi_done rfl (Ext.refl _) rfl))
 · 
  exact fun _ e48=>dk rfl rfl (deps_nil (wl_load rfl rfl (load_cell cellBool (hb9.ext (e14.trans (e20.trans (e27.trans e48)))) rfl) (by decide) (pi_done rfl (Ext.refl _) rfl)))
 · 
  exact fun _ _=>dk rfl rfl (dk rfl rfl (deps_nil (pu (v:= .bool (!(sa==sb))) rfl (by kernel_rfl) (pi_done rfl (Ext.refl _) rfl))))
 · 
  exact fun _ _=>deps_nil (mv 1 rfl (pi_done rfl (Ext.refl _) rfl))
 · 
  intro v68 e69
  have hw6:=hw5.trans e69
  refine dk rfl rfl (dk rfl rfl (deps_nil ?_))
  have L80:ln (sg (!(sa==sb)) ((Int.natAbs x)/(Int.natAbs y)))≤17179869183:=by rw [ln_sg];exact L24
  refine cl (vs:= [.bool (!(sa==sb)),.slice A30 n30 c30]) hw6 (g_ref5_made hw6.size (o30.ext e69).wi (by rw [j30];exact Nat.le_trans L24 (by decide))) rfl (by kernel_rfl) fun xr83 v81 r83 e82 hw7=>?_
  obtain⟨s84,A84,n84,c84,rfl,z84⟩:=r83
  exact pi_done rfl e82 ⟨_,_,_,_,rfl,z84⟩
 · 
  exact fun _ _=>deps_nil (pf g1 0 rfl (by kernel_rfl) (pi_done rfl (Ext.refl _) rfl))
 · 
  exact fun _ e88=>dk rfl rfl (deps_nil (wl_load rfl rfl (load_cell cellBool (hb4.ext (e8.trans (e14.trans (e20.trans (e27.trans e88))))) rfl) (by decide) (pi_done rfl (Ext.refl _) rfl)))
 · 
  exact fun _ _=>deps_nil (mv 1 rfl (pi_done rfl (Ext.refl _) rfl))
 · 
  intro v96 e97
  have hw6:=hw5.trans e97
  refine dk rfl rfl (dk rfl rfl (deps_nil ?_))
  have L108:ln (sg sa ((Int.natAbs x)%(Int.natAbs y)))≤17179869183:=by rw [ln_sg];exact L25
  refine cl (vs:= [.bool sa,.slice A31 n31 c31]) hw6 (g_ref5_made hw6.size (o31.ext e97).wi (by rw [j31];exact Nat.le_trans L25 (by decide))) rfl (by kernel_rfl) fun xr111 v109 r111 e110 hw7=>?_
  obtain⟨s112,A112,n112,c112,rfl,z112⟩:=r111
  exact pi_done rfl e110 ⟨_,_,_,_,rfl,z112⟩
 · 
  intro v113 e114
  have hw6:=hw5.trans e114
  refine dk rfl rfl (dk rfl rfl (dk rfl rfl (dk rfl rfl (dk rfl rfl (dk rfl rfl (deps_cons rfl rfl fun x145 y146 h147 e148 f149=>?_))))))
  obtain⟨s150,A150,n150,c150,rfl,z150⟩:=h147
  have z150:=z150.ext f149
  refine dk rfl rfl (dk rfl rfl (dk rfl rfl (deps_cons rfl rfl fun x166 y167 h168 e169 f170=>?_)))
  obtain⟨s171,A171,n171,c171,rfl,z171⟩:=h168
  have z171:=z171.ext f170
  refine deps_nil ?_
  have hb173:=(hb15.ext (e20.trans (e27.trans e114)))
  refine so aggInt hb173 [.bool s150,.slice A150 n150 c150] hw6 ge16 rfl rfl rfl rfl fun v172 hb174 u175 hw7=>?_
  have hb178:=((hb21.ext (e27.trans e114)).updN u175 (by omega))
  refine so aggInt hb178 [.bool s171,.slice A171 n171 c171] hw7 ge22 rfl rfl rfl rfl fun v177 hb179 u180 hw8=>(mv 1 rfl (wl_nil (eo_np (eo_then (cw_ret (eo_ret [.agg #[.bool s150,.slice A150 n150 c150],.agg #[.bool s171,.slice A171 n171 c171],I0] rfl ⟨⟨_,rfl,load_agg aggInt (hb174.updN u180 (by omega)) [.bool s150,.slice A150 n150 c150] rfl (bq rfl) rfl⟩,⟨_,rfl,load_agg aggInt hb179 [.bool s171,.slice A171 n171 c171] rfl (bq rfl) rfl⟩,rfl,trivial⟩ ?_))))))
  exact⟨_,rfl,⟨_,_,_,rfl,⟨_,_,_,_,rfl,(((z150.updT hb173 u175).updT hb178 u180)).cast ((sg_tdiv _ _ _ _).trans (by rw [hx.sg,hy.sg]))⟩,⟨_,_,_,_,rfl,(((z171.updT hb173 u175).updT hb178 u180)).cast ((sg_tmod sa sb _ _).trans (by rw [hx.sg,hy.sg]))⟩,rfl⟩,hw8⟩
theorem tmod_zero_iff {x y:Int}:x.tmod y=0↔x.natAbs%y.natAbs=0:=by rw [←Int.natAbs_tmod,Int.natAbs_eq_zero]
set_option maxHeartbeats 4000000 in
theorem g_ref5_Exact_ok {w:World}{sa:Bool}{Aa:Option Addr}{na ca:Nat}{x:Int}{sb:Bool}{Ab:Option Addr}{nb cb:Nat}{y:Int}{b:Nat}(hb:b≤w.heap.size) (hx:Zi w sa Aa na ca x) (la:na≤17179869183) (hy:Zi w sb Ab nb cb y) (lb:nb≤17179869183) (h0:y≠0) (h1:x.natAbs%y.natAbs=0):
    Calls Tryz.prog 68 #[.agg #[.bool sa,.slice Aa na ca],.agg #[.bool sb,.slice Ab nb cb]] w (Gv w (T2 (ZR b (x.tdiv y)) (Is (.int .i64 0)))):=by
 refine Calls.mono (R:=Gv w (T2 (ZR w.heap.size (x.tdiv y)) (Is (.int .i64 0)))) ?_ (Gv.imp (T2.imp (ZR.imp hb) Is.imp))
 have Lx:ln x≤17179869183:=Nat.le_trans hx.ln la
 have Ly:ln y≤17179869183:=Nat.le_trans hy.ln lb
 refine sx_enter Tryz.func68 rfl (n:=25) rfl (bq rfl) (args:= [.agg #[.bool sa,.slice Aa na ca],.agg #[.bool sb,.slice Ab nb cb]]) (cw_keep [(0,.agg #[.bool sa,.slice Aa na ca]),(1,.agg #[.bool sb,.slice Ab nb cb])] ⟨rfl,rfl,trivial⟩ (sr (bx [.bool sa,.slice Aa na ca] (Ext.refl w) rfl rfl rfl fun g1 v2 hb4 ge5 e3 hw1=>(bxq [.bool sb,.slice Ab nb cb] hw1 hb4.lt rfl rfl rfl fun g6 v7 hb9 ge10 q11 e8 hw2=>(alq [F0,S0] hw2 hb9.lt (fun _=>by kernel_rfl) rfl fun g12 v13 hb15 ge16 q17 e14 hw3=>(mv 1 rfl (ne_ (sr (lo aggInt (hb4.ext (e8.trans e14)) [.bool sa,.slice Aa na ca] rfl rfl rfl (lo aggInt (hb9.ext e14) [.bool sb,.slice Ab nb cb] rfl rfl rfl ?_))))))))))
 have L18:ln ((x).tdiv y)≤17179869183:=Nat.le_trans (ln_tdiv _ _) Lx
 have L19:ln ((x).tmod y)≤17179869183:=Nat.le_trans (ln_tmod _ _) Lx
 refine cl (vs:= [.agg #[.bool sa,.slice Aa na ca],.agg #[.bool sb,.slice Ab nb cb]]) hw3 (g_ref5_Trunc hw3.size (hx.ext hw3) (lx_ la rfl) (hy.ext hw3) (lx_ lb rfl) h0) rfl (by kernel_rfl) fun xr22 v20 r22 e21 hw4=>?_
 obtain⟨_,_,_,rfl,⟨s24,A24,n24,c24,rfl,z24⟩,⟨s25,A25,n25,c25,rfl,z25⟩,rfl⟩:=r22
 refine mv 1 rfl (pu (v:= .agg #[.bool s24,.slice A24 n24 c24]) rfl (by kernel_rfl) (pu (v:= .agg #[.bool s25,.slice A25 n25 c25]) rfl (by kernel_rfl) (pu (v:= .int .i64 0) rfl (by kernel_rfl) (alq [F0,S0] hw4 (hb15.ext e21).lt (fun _=>by kernel_rfl) rfl fun g26 v27 hb29 ge30 q31 e28 hw5=>(alq [F0,S0] hw5 hb29.lt (fun _=>by kernel_rfl) rfl fun g32 v33 hb35 ge36 q37 e34 hw6=>?_)))))
 have hb39:=(hb29.ext e34)
 refine so aggInt hb39 [.bool s24,.slice A24 n24 c24] hw6 ge30 rfl rfl rfl rfl fun v38 hb40 u41 hw7=>?_
 have hb44:=(hb35.updN u41 (by omega))
 refine so aggInt hb44 [.bool s25,.slice A25 n25 c25] hw7 ge36 rfl rfl rfl rfl fun v43 hb45 u46 hw8=>(mv 1 rfl (ne_ (cw_seq (sr (mv 1 rfl (pu (v:= .bool false) rfl (by kernel_rfl) (ne_ (cw_false rfl (cw_skip (eo_then (cw_seq (sr (lo aggInt hb45 [.bool s25,.slice A25 n25 c25] rfl rfl rfl ?_)))))))))))))
 refine cl (vs:= [.agg #[.bool s25,.slice A25 n25 c25]]) hw8 (g_ref5_Sign (((z25.ext (e28.trans e34)).updT hb39 u41).updT hb44 u46).zi (z25.le (lx_ L19 rfl))) rfl (by kernel_rfl) fun xr50 v48 r50 e49 hw9=>?_
 obtain rfl:=r50
 refine wl_cmp rfl rfl rfl false (scmp_ne_f (tmod_zero_iff.2 h1)) (by decide) (ne_ (cw_false rfl (cw_skip (eo_then (sr (lo aggInt ((hb40.updN u46 (by omega)).ext e49) [.bool s24,.slice A24 n24 c24] rfl rfl rfl ?_))))))
 have hb52:=((((hb15.ext (e21.trans (e28.trans e34))).updN u41 (by omega)).updN u46 (by omega)).ext e49)
 refine so aggInt hb52 [.bool s24,.slice A24 n24 c24] hw9 ge16 rfl rfl rfl rfl fun v51 hb53 u54 hw10=>(mv 1 rfl (ne_ (cw_ret (eo_ret [.agg #[.bool s24,.slice A24 n24 c24],I0] rfl ⟨⟨_,rfl,load_agg aggInt hb53 [.bool s24,.slice A24 n24 c24] rfl (bq rfl) rfl⟩,rfl,trivial⟩ ?_))))
 exact⟨_,rfl,⟨_,_,rfl,⟨_,_,_,_,rfl,(((((z24.ext (e28.trans e34)).updT hb39 u41).updT hb44 u46).ext e49).updT hb52 u54)⟩,rfl⟩,hw10⟩
set_option maxHeartbeats 4000000 in
theorem g_ref5_Exact_not {w:World}{sa:Bool}{Aa:Option Addr}{na ca:Nat}{x:Int}{sb:Bool}{Ab:Option Addr}{nb cb:Nat}{y:Int}{b:Nat}(hb:b≤w.heap.size) (hx:Zi w sa Aa na ca x) (la:na≤17179869183) (hy:Zi w sb Ab nb cb y) (lb:nb≤17179869183) (h0:y≠0) (h1:x.natAbs%y.natAbs≠0):
    Calls Tryz.prog 68 #[.agg #[.bool sa,.slice Aa na ca],.agg #[.bool sb,.slice Ab nb cb]] w (Gv w (T2 (ZR b (0)) (Is (.int .i64 8)))):=by
 refine Calls.mono (R:=Gv w (T2 (ZR w.heap.size (0)) (Is (.int .i64 8)))) ?_ (Gv.imp (T2.imp (ZR.imp hb) Is.imp))
 have Lx:ln x≤17179869183:=Nat.le_trans hx.ln la
 have Ly:ln y≤17179869183:=Nat.le_trans hy.ln lb
 refine sx_enter Tryz.func68 rfl (n:=25) rfl (bq rfl) (args:= [.agg #[.bool sa,.slice Aa na ca],.agg #[.bool sb,.slice Ab nb cb]]) (cw_keep [(0,.agg #[.bool sa,.slice Aa na ca]),(1,.agg #[.bool sb,.slice Ab nb cb])] ⟨rfl,rfl,trivial⟩ (sr (bx [.bool sa,.slice Aa na ca] (Ext.refl w) rfl rfl rfl fun g1 v2 hb4 ge5 e3 hw1=>(bxq [.bool sb,.slice Ab nb cb] hw1 hb4.lt rfl rfl rfl fun g6 v7 hb9 ge10 q11 e8 hw2=>(alq [F0,S0] hw2 hb9.lt (fun _=>by kernel_rfl) rfl fun g12 v13 hb15 ge16 q17 e14 hw3=>(mv 1 rfl (ne_ (sr (lo aggInt (hb4.ext (e8.trans e14)) [.bool sa,.slice Aa na ca] rfl rfl rfl (lo aggInt (hb9.ext e14) [.bool sb,.slice Ab nb cb] rfl rfl rfl ?_))))))))))
 have L18:ln ((x).tdiv y)≤17179869183:=Nat.le_trans (ln_tdiv _ _) Lx
 have L19:ln ((x).tmod y)≤17179869183:=Nat.le_trans (ln_tmod _ _) Lx
 refine cl (vs:= [.agg #[.bool sa,.slice Aa na ca],.agg #[.bool sb,.slice Ab nb cb]]) hw3 (g_ref5_Trunc hw3.size (hx.ext hw3) (lx_ la rfl) (hy.ext hw3) (lx_ lb rfl) h0) rfl (by kernel_rfl) fun xr22 v20 r22 e21 hw4=>?_
 obtain⟨_,_,_,rfl,⟨s24,A24,n24,c24,rfl,z24⟩,⟨s25,A25,n25,c25,rfl,z25⟩,rfl⟩:=r22
 refine mv 1 rfl (pu (v:= .agg #[.bool s24,.slice A24 n24 c24]) rfl (by kernel_rfl) (pu (v:= .agg #[.bool s25,.slice A25 n25 c25]) rfl (by kernel_rfl) (pu (v:= .int .i64 0) rfl (by kernel_rfl) (alq [F0,S0] hw4 (hb15.ext e21).lt (fun _=>by kernel_rfl) rfl fun g26 v27 hb29 ge30 q31 e28 hw5=>(alq [F0,S0] hw5 hb29.lt (fun _=>by kernel_rfl) rfl fun g32 v33 hb35 ge36 q37 e34 hw6=>?_)))))
 have hb39:=(hb29.ext e34)
 refine so aggInt hb39 [.bool s24,.slice A24 n24 c24] hw6 ge30 rfl rfl rfl rfl fun v38 hb40 u41 hw7=>?_
 have hb44:=(hb35.updN u41 (by omega))
 refine so aggInt hb44 [.bool s25,.slice A25 n25 c25] hw7 ge36 rfl rfl rfl rfl fun v43 hb45 u46 hw8=>(mv 1 rfl (ne_ (cw_seq (sr (mv 1 rfl (pu (v:= .bool false) rfl (by kernel_rfl) (ne_ (cw_false rfl (cw_skip (eo_then (cw_seq (sr (lo aggInt hb45 [.bool s25,.slice A25 n25 c25] rfl rfl rfl ?_)))))))))))))
 refine cl (vs:= [.agg #[.bool s25,.slice A25 n25 c25]]) hw8 (g_ref5_Sign (((z25.ext (e28.trans e34)).updT hb39 u41).updT hb44 u46).zi (z25.le (lx_ L19 rfl))) rfl (by kernel_rfl) fun xr50 v48 r50 e49 hw9=>?_
 obtain rfl:=r50
 refine wl_cmp rfl rfl rfl true (scmp_ne_t (fun e=>h1 (tmod_zero_iff.1 e))) (by decide) (ne_ (cw_true rfl (sr (pu (v:= .agg #[F0,S0]) rfl (by kernel_rfl) ?_))))
 have hb52:=((((hb15.ext (e21.trans (e28.trans e34))).updN u41 (by omega)).updN u46 (by omega)).ext e49)
 refine so aggInt hb52 [F0,S0] hw9 ge16 rfl rfl rfl rfl fun v51 hb53 u54 hw10=>(mv 1 rfl (ne_ (cw_ret (eo_thenR (eo_ret [.agg #[F0,S0],.int .i64 8] rfl ⟨⟨_,rfl,load_agg aggInt hb53 [F0,S0] rfl (bq rfl) rfl⟩,rfl,trivial⟩ ?_)))))
 exact⟨_,rfl,⟨_,_,rfl,⟨_,_,_,_,rfl,((Zr.zero (w:=v48) (base:=w.heap.size)).updT hb52 u54)⟩,rfl⟩,hw10⟩
set_option maxHeartbeats 4000000 in
theorem g_ref5_Of_p1 {w:World}{b:Nat}(hb:b≤w.heap.size):
    Calls Tryz.prog 7 #[.int .i64 1] w (Gv w (ZR b (1))):=by
 refine Calls.mono (R:=Gv w (ZR w.heap.size (1))) ?_ (Gv.imp (ZR.imp hb))
 refine sx_enter Tryz.func7 rfl (n:=14) rfl (bq rfl) (args:= [.int .i64 1]) (cw_keep [(0,.int .i64 1)] ⟨rfl,trivial⟩ (sr (al [F0,S0] (Ext.refl w) (fun _=>by kernel_rfl) rfl fun g1 v2 hb4 ge5 e3 hw1=>(ne_ (cw_seq (sr (mv 1 rfl (pu (v:= .bool false) rfl (by kernel_rfl) (ne_ (cw_false rfl (cw_skip (eo_then (cw_seq ?_)))))))))))))
 refine cw_region (mv 1 rfl (pu (v:= .int .u64 1) rfl (by kernel_rfl) (wl_bslice rfl rfl (by decide) (k:=1) (e:=38) [.int .u64 1] (fun _=>by kernel_rfl) fun g6 v7 nb8=>?_)))
 have o9:=O1.mk_ (x:=1) (b:=w.heap.size) nb8 hw1.size
 have e10:=nb8.ext
 have hw2:=hw1.trans e10
 have o12:=own1_wd o9 (by decide:1≤18446744073709551615) (by decide:1≠0)
 have j11:=len1 (by decide:1≤18446744073709551615) (by decide:1≠0)
 have L13:ln (sg false 1)≤1:=by rw [ln_sg];exact (Nat.le_of_eq j11.symm)
 refine cl (vs:= [F0,.slice (some ⟨g6,0,none⟩) 1 1]) hw2 (g_ref5_made hw2.size o12.wi (by rw [j11];exact Nat.le_trans (Nat.le_of_eq j11.symm) (by decide))) rfl (by kernel_rfl) fun xr16 v14 r16 e15 hw3=>?_
 obtain⟨s17,A17,n17,c17,rfl,z17⟩:=r16
 have hb19:=(hb4.ext (e10.trans e15))
 refine so aggInt hb19 [.bool s17,.slice A17 n17 c17] hw3 ge5 rfl rfl rfl rfl fun v18 hb20 u21 hw4=>(ne_ (cw_ret (eo_ret [.agg #[.bool s17,.slice A17 n17 c17]] rfl ⟨⟨_,rfl,load_agg aggInt hb20 [.bool s17,.slice A17 n17 c17] rfl (bq rfl) rfl⟩,trivial⟩ ?_)))
 exact⟨_,rfl,⟨_,_,_,_,rfl,((z17.updT hb19 u21)).cast (rfl)⟩,hw4⟩
set_option maxHeartbeats 4000000 in
theorem ref3_Gcd {w:World}{A D:Option Addr}{n cap m cd:Nat}{xs ys:List Nat}(hx:Rd w A n cap xs) (hln:n≤137438953472) (hy:Rd w D m cd ys) (hlm:m≤137438953472):
    Calls Tryz.prog 66 #[.slice A n cap,.slice D m cd] w (Gv w (WR w.heap.size (Nat.gcd (nv xs) (nv ys)))):=by
 refine sx_enter Tryz.func66 rfl (n:=26) rfl (bq rfl) (args:= [.slice A n cap,.slice D m cd]) (cw_keep [(0,.slice A n cap),(1,.slice D m cd)] ⟨rfl,rfl,trivial⟩ (sr (mv 1 rfl (ne_ (sr (mv 1 rfl (cl (vs:= [.slice A n cap]) (Ext.refl w) (ref3_halves hx (by omega)) rfl (by kernel_rfl) fun xr3 v1 r3 e2 hw1=>?_)))))))
 obtain⟨A4,n4,c4,rfl,rd4⟩:=r3
 refine mv 1 rfl (ne_ (sr (mv 1 rfl (cl (vs:= [.slice D m cd]) hw1 (ref3_halves (hy.ext e2) (by omega)) rfl (by kernel_rfl) fun xr7 v5 r7 e6 hw2=>?_))))
 obtain⟨A8,n8,c8,rfl,rd8⟩:=r7
 refine mv 1 rfl (ne_ (cw_seq (cw_block ?_)))
 have hxn:=rd4.hl hx (Nat.le_refl _)
 have hyn:=rd8.hl hy (Nat.le_refl _)
 refine cw_loop (T:=World×Option Addr×Nat×Nat×Nat×Option Addr×Nat×Nat×Nat)
  (fun⟨wr,A1,n1,c1,X1,B1,m1,d1,Y1⟩=> [(5,.slice A1 n1 c1),(6,.slice B1 m1 d1)])
  (fun⟨wr,A1,n1,c1,X1,B1,m1,d1,Y1⟩=>wr)
  (fun⟨wr,A1,n1,c1,X1,B1,m1,d1,Y1⟩=>(Ext w wr)∧(n1≤274877906944)∧(m1≤274877906944)∧(Nat.gcd X1 Y1=Nat.gcd (nv xs) (nv ys))∧(Rd wr A1 n1 c1 (db 4294967296 (X1)))∧(Rd wr B1 m1 d1 (db 4294967296 (Y1))))
  (fun⟨wr,A1,n1,c1,X1,B1,m1,d1,Y1⟩=>Y1)
  (⟨v5,_,_,_,_,_,_,_,_⟩:World×Option Addr×Nat×Nat×Nat×Option Addr×Nat×Nat×Nat) ⟨hw2,(by omega),(by omega),rfl,(rd4.ext e6),rd8⟩ rfl ⟨rfl,rfl,trivial⟩ ?_
 rintro⟨wr,A1,n1,c1,X1,B1,m1,d1,Y1⟩ ⟨hw1,hn1,hm1,hg,rl5,rl6⟩
 refine cw_re [(5,.slice A1 n1 c1),(6,.slice B1 m1 d1)] wr rfl ⟨rfl,rfl,trivial⟩ (cw_seq (cw_seq ?_))
 by_cases hyp:m1>0
 · 
  have hY0:Y1≠0:=fun e=>by have h:=rl6.len;rw [e,db_zero] at h;simp only [List.length_nil] at h;omega
  refine cw_region (mv 1 rfl (pu (v:= .int .i64 ((m1:Nat):Int)) rfl (by kernel_rfl) (wl_cmp rfl rfl rfl true (cb_gt_t (a:=m1) (b:=0) rfl rfl (by omega)) (by decide) (ne_ (cw_true rfl (cw_skip (eo_then (cw_block (sr (mv 2 rfl (cl (vs:= [.slice A1 n1 c1,.slice B1 m1 d1]) hw1 (ref3_divide_ rl5 (by omega) rl6 (by omega) hY0) rfl (by kernel_rfl) fun xr11 v9 r11 e10 hw2=>?_)))))))))))
  obtain⟨_,_,rfl,⟨A13,n13,c13,rfl,rd13⟩,⟨A14,n14,c14,rfl,rd14⟩⟩:=r11
  refine mv 1 rfl (pu (v:= .slice A13 n13 c13) rfl (by kernel_rfl) (pu (v:= .slice A14 n14 c14) rfl (by kernel_rfl) (mv 2 rfl (ne_ (sr (mv 2 rfl (ne_ (cw_region (mv 2 rfl (wl_nil (eo_block_normal (eo_round (⟨v9,_,_,_,Y1,_,_,_,X1%Y1⟩:World×Option Addr×Nat×Nat×Nat×Option Addr×Nat×Nat×Nat) ⟨hw2,(by omega),(by have h1:=rd14.len;have h2:=rl6.len;have h3:=len_db_mono b32 (Nat.le_of_lt (Nat.mod_lt X1 (show Y1>0 by omega)));omega),(by rw [←hg,Nat.gcd_comm X1 Y1,Nat.gcd_rec Y1 X1,Nat.gcd_comm]),(rl6.ext e10),rd14⟩ (show X1%Y1<Y1 from Nat.mod_lt _ (by omega)) rfl ⟨rfl,rfl,trivial⟩))))))))))))
 · 
  obtain rfl:Y1=0:=(len_db_zero b32).1 (by have h:=rl6.len;omega)
  rw [Nat.gcd_zero_right] at hg
  refine cw_region (mv 1 rfl (pu (v:= .int .i64 ((m1:Nat):Int)) rfl (by kernel_rfl) (wl_cmp rfl rfl rfl false (cb_gt_f (a:=m1) (b:=0) rfl rfl (by omega)) (by decide) (ne_ (cw_false rfl (cw_exit (eo_thenX (eo_loopX (eo_block_here (eo_then (sr (mv 1 rfl (cl (vs:= [.slice A1 n1 c1]) hw1 (ref3_words_ hw1.size rl5 (by omega)) rfl (by kernel_rfl) fun xr17 v15 r17 e16 hw2=>?_)))))))))))))
  obtain⟨A18,n18,c18,rfl,j18,o18⟩:=r17
  refine mv 1 rfl (ne_ (cw_ret (eo_ret [.slice A18 n18 c18] rfl ⟨rfl,trivial⟩ ?_)))
  exact⟨_,rfl,(by rw [←hg];exact⟨_,_,_,rfl,j18,o18⟩),hw2⟩
end Go.Proofs.YtgilhcdglaneiaaGreat
