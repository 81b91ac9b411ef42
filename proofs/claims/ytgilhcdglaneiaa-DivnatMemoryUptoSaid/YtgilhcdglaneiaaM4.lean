/- Parts Law3p, Own0, Book, Sxf, Bookw, Keep, Keepw, Law3q, UpB, joined. -/
import Derived.Test.YtgilhcdglaneiaaM3

namespace Go.Proofs.Ytgilhcdglaneiaa
open Go.RowKit
noncomputable def rt3 (X k:Nat):Nat:= @Classical.epsilon Nat ⟨0⟩ (IsRoot X k)
theorem rt3_eq {X k r:Nat}(h:IsRoot X k r):rt3 X k=r:=IsRoot.uniq (@Classical.epsilon_spec_aux Nat ⟨0⟩ (IsRoot X k) ⟨r,h⟩) h
noncomputable def sq3 (X Y:Nat):Nat×Nat:= @Classical.epsilon (Nat×Nat) ⟨(0,0)⟩ (fun p=>p.2*Y^p.1=X∧p.2%Y≠0)
theorem sq3_eq {X Y q L:Nat}(hY:2≤Y) (h1:L*Y^q=X) (h2:L%Y≠0):sq3 X Y=(q,L):=by
 have h:= @Classical.epsilon_spec_aux (Nat×Nat) ⟨(0,0)⟩ (fun p=>p.2*Y^p.1=X∧p.2%Y≠0) ⟨(q,L),h1,h2⟩
 have h3:=strip_uniq hY (h.1.trans h1.symm) h.2 h2
 exact Prod.ext h3.1 h3.2
noncomputable def stN (X Y:Nat):Nat:=open Classical in if X=0∨Y<2 then 0 else (sq3 X Y).1
noncomputable def stL (X Y:Nat):Nat:=open Classical in if X=0∨Y<2 then 0 else (sq3 X Y).2
def stE (X Y:Nat):Int:=if X=0∨Y<2 then 3 else 0
noncomputable def roV (X:Nat) (k:Int):Nat:=if k<1 then 0 else rt3 X k.toNat
def roE (k:Int):Int:=if k<1 then 3 else 0
theorem root_ex (X:Nat){k:Nat}(hk:1≤k):∃r,IsRoot X k r:=by
 have h:∀m,X<(m+1)^k→∃r,IsRoot X k r:=by
  intro m
  induction m with
  | zero=>intro h;rw [Nat.zero_add,Nat.one_pow] at h;exact⟨0,by rw [Nat.zero_pow (by omega)];omega,by rw [Nat.zero_add,Nat.one_pow];exact h⟩
  | succ m ih=>
   intro h
   by_cases h1:(m+1)^k≤X
   ·exact⟨m+1,h1,h⟩
   ·exact ih (by omega)
 refine h X ?_
 have:=Nat.le_self_pow (n:=k) (by omega) (X+1)
 omega
theorem strip_ex {Y:Nat}(hY:2≤Y):∀{X:Nat},X≠0→∃q L,L*Y^q=X∧L%Y≠0:=by
 intro X
 induction X using Nat.strongRecOn with
 | ind X ih=>
  intro h0
  by_cases h:X%Y=0
  ·have h1:X/Y*Y=X:=Nat.div_mul_cancel (Nat.dvd_of_mod_eq_zero h)
   have h2:X/Y<X:=Nat.div_lt_self (Nat.pos_of_ne_zero h0) (by omega)
   obtain⟨q,L,h3,h4⟩:=ih (X/Y) h2 (fun e=>h0 (by rw [←h1,e,Nat.zero_mul]))
   exact⟨q+1,L,by rw [Nat.pow_succ,←Nat.mul_assoc,h3,h1],h4⟩
  ·exact⟨0,X,by rw [Nat.pow_zero,Nat.mul_one],h⟩
theorem len_gcd3 {X Y N:Nat}(h:(wd X).length≤N) (h':(wd Y).length≤N):(wd (Nat.gcd X Y)).length≤N:=by
 by_cases h0:X=0
 ·rw [h0,Nat.gcd_zero_left];exact h'
 ·exact Nat.le_trans (len_wd_mono (Nat.gcd_le_left Y (Nat.pos_of_ne_zero h0))) h
section
variable {w:World}{A B:Option Addr}{n cap n' cap' X Y b:Nat}(hb:b≤w.heap.size)
include hb
theorem j3_Gcd (hx:Wi w A n cap X) (hl:n≤67108864) (hy:Wi w B n' cap' Y) (hl':n'≤67108864):Calls Try.prog 67 #[.slice A n cap,.slice B n' cap'] w (Gv w (WR b (Nat.gcd X Y))):=by
 obtain⟨xs,h1,rfl⟩:=hx
 obtain⟨ys,h2,rfl⟩:=hy
 refine (divnat_Gcd h1 (by omega) h2 (by omega)).mono ?_
 rintro e w' ⟨A,n,c,rfl,h1,_,h3,hx⟩
 exact⟨_,rfl,⟨_,_,_,rfl,h1.out,h3.mono hb⟩,hx⟩
theorem j3_rGcd (hx:Wi w A n cap X) (hl:n≤67108864) (hy:Wi w B n' cap' Y) (hl':n'≤67108864):Calls Try.prog 62 #[.slice A n cap,.slice B n' cap'] w (Gv w (WR b (Nat.gcd X Y))):=by
 obtain⟨xs,h1,rfl⟩:=hx
 obtain⟨ys,h2,rfl⟩:=hy
 exact (ref3_Gcd h1 (by omega) h2 (by omega)).mono (Gv.imp (WR.imp hb))
theorem j3_rSqrt (hx:Wi w A n cap X) (hl:n≤67108864):Calls Try.prog 63 #[.slice A n cap] w (Gv w (T2 (WR b (rt3 X 2)) (WR b (X-rt3 X 2*rt3 X 2)))):=by
 obtain⟨xs,h1,rfl⟩:=hx
 refine (ref3_Sqrt h1 (by omega)).mono ?_
 rintro e w' ⟨r,hr,h⟩
 rw [rt3_eq hr];exact Gv.imp (T2.imp (WR.imp hb) (WR.imp hb)) _ _ h
theorem j3_Strip (hx:Wi w A n cap X) (hl:n≤67108864) (hy:Wi w B n' cap' Y) (hl':n'≤67108864):Calls Try.prog 69 #[.slice A n cap,.slice B n' cap'] w (Gv w (T3 (Is (.int .i64 ((stN X Y:Nat):Int))) (WR b (stL X Y)) (Is (.int .i64 (stE X Y))))):=by
 obtain⟨xs,h1,rfl⟩:=hx
 obtain⟨ys,h2,rfl⟩:=hy
 by_cases h0:nv xs=0∨nv ys<2
 ·refine (divnat_Strip_bad h1 (by omega) h2 (by omega) h0).mono ?_
  rintro e w' ⟨rfl,hx⟩
  refine⟨_,rfl,⟨_,_,_,rfl,?_,?_,?_⟩,hx⟩
  ·unfold stN;rw [if_pos h0];rfl
  ·unfold stL;rw [if_pos h0];exact wr_nil3
  ·unfold stE;rw [if_pos h0];rfl
 ·refine (divnat_Strip h1 (by omega) h2 (by omega) (by omega) (by omega)).mono ?_
  rintro e w' ⟨k,L,A,n,c,rfl,g1,g2,g3,_,g5,hx⟩
  have e:=sq3_eq (by omega) g1.out g2.out
  refine⟨_,rfl,⟨_,_,_,rfl,?_,?_,?_⟩,hx⟩
  ·unfold stN;rw [if_neg h0,e];rfl
  ·unfold stL;rw [if_neg h0,e];exact⟨_,_,_,rfl,g3.out,g5.mono hb⟩
  ·unfold stE;rw [if_neg h0];rfl
theorem j3_rStrip (hx:Wi w A n cap X) (hl:n≤67108864) (hy:Wi w B n' cap' Y) (hl':n'≤67108864):Calls Try.prog 64 #[.slice A n cap,.slice B n' cap'] w (Gv w (T3 (Is (.int .i64 ((stN X Y:Nat):Int))) (WR b (stL X Y)) (Is (.int .i64 (stE X Y))))):=by
 obtain⟨xs,h1,rfl⟩:=hx
 obtain⟨ys,h2,rfl⟩:=hy
 by_cases h0:nv xs=0∨nv ys<2
 ·refine (ref3_Strip_bad h1 (by omega) h2 (by omega) rfl rfl h0).mono ?_
  rintro e w' ⟨v,rfl,rfl,hx⟩
  refine⟨_,rfl,⟨_,_,_,rfl,?_,?_,?_⟩,hx⟩
  ·unfold stN;rw [if_pos h0];rfl
  ·unfold stL;rw [if_pos h0];exact wr_nil3
  ·unfold stE;rw [if_pos h0];rfl
 ·refine (ref3_Strip h1 (by omega) h2 (by omega) rfl rfl ⟨by omega,by omega⟩).mono ?_
  rintro e w' ⟨q,L,g1,g2,h⟩
  have e:=sq3_eq (by omega) g1 g2
  unfold stN stL stE
  rw [if_neg h0,if_neg h0,if_neg h0,e]
  exact Gv.imp (T3.imp Is.imp (WR.imp hb) Is.imp) _ _ h
theorem j3_Root {k:Int}(hx:Wi w A n cap X) (hl:n≤67108864) (hk:k≤9223372036854775807):Calls Try.prog 70 #[.slice A n cap,.int .i64 k] w (Gv w (T2 (WR b (roV X k)) (Is (.int .i64 (roE k))))):=by
 obtain⟨xs,h1,rfl⟩:=hx
 by_cases h0:k<1
 ·refine (divnat_Root_bad (A:=A) (n:=n) (cap:=cap) h0).mono ?_
  rintro e w' ⟨rfl,rfl⟩
  refine⟨_,rfl,⟨_,_,rfl,?_,?_⟩,Ext.refl _⟩
  ·unfold roV;rw [if_pos h0];exact wr_nil3
  ·unfold roE;rw [if_pos h0];rfl
 ·obtain⟨K,rfl⟩:=Int.eq_ofNat_of_zero_le (show 0≤k by omega)
  refine (divnat_Root h1 hl (K:=K) (by omega) (by omega)).mono ?_
  rintro e w' ⟨r,hr,A,n,c,rfl,g1,_,g3,hx⟩
  refine⟨_,rfl,⟨_,_,rfl,?_,?_⟩,hx⟩
  ·unfold roV;rw [if_neg h0,Int.toNat_natCast,rt3_eq hr.out];exact⟨_,_,_,rfl,g1.out,g3.mono hb⟩
  ·unfold roE;rw [if_neg h0];rfl
theorem j3_rRoot {k:Int}(hx:Wi w A n cap X) (hl:n≤67108864) (hk:k≤9223372036854775807):Calls Try.prog 65 #[.slice A n cap,.int .i64 k] w (Gv w (T2 (WR b (roV X k)) (Is (.int .i64 (roE k))))):=by
 obtain⟨xs,h1,rfl⟩:=hx
 by_cases h0:k<1
 ·refine (ref3_Root_bad (A:=A) (n:=n) (cap:=cap) h0).mono ?_
  rintro e w' ⟨v,rfl,rfl,hx⟩
  refine⟨_,rfl,⟨_,_,rfl,?_,?_⟩,hx⟩
  ·unfold roV;rw [if_pos h0];exact wr_nil3
  ·unfold roE;rw [if_pos h0];rfl
 ·obtain⟨K,rfl⟩:=Int.eq_ofNat_of_zero_le (show 0≤k by omega)
  refine (ref3_Root h1 (by omega) (K:=K) (by omega) (by omega)).mono ?_
  rintro e w' ⟨r,hr,h⟩
  unfold roV roE
  rw [if_neg h0,if_neg h0,Int.toNat_natCast,rt3_eq hr]
  exact Gv.imp (T2.imp (WR.imp hb) Is.imp) _ _ h
omit hb
theorem len_rt3 {k N:Nat}(hk:1≤k) (h:(wd X).length≤N):(wd (rt3 X k)).length≤N:=by
 by_cases h0:∃r,IsRoot X k r
 ·obtain⟨r,hr⟩:=h0
  rw [rt3_eq hr];exact Nat.le_trans (len_wd_mono (IsRoot.le_self hk hr)) h
 ·exact absurd (root_ex X hk) h0
theorem len_stL {N:Nat}(h:(wd X).length≤N):(wd (stL X Y)).length≤N:=by
 unfold stL
 split
 ·exact Nat.zero_le _
 ·rename_i h0
  obtain⟨q,L,h1,h2⟩:=strip_ex (Y:=Y) (by omega) (X:=X) (by omega)
  rw [sq3_eq (by omega) h1 h2]
  refine Nat.le_trans (len_wd_mono ?_) h
  have:L*1≤L*Y^q:=Nat.mul_le_mul_left _ (Nat.pow_pos (by omega))
  show L≤X
  omega
theorem len_sub3 {Z N:Nat}(h:(wd X).length≤N):(wd (X-Z)).length≤N:=Nat.le_trans (len_wd_mono (Nat.sub_le _ _)) h
theorem len_roV {k:Int}{N:Nat}(h:(wd X).length≤N):(wd (roV X k)).length≤N:=by
 unfold roV
 split
 ·exact Nat.zero_le _
 ·exact len_rt3 (by omega) h
end
theorem aggOp3:AggT Try.prog 27 5:=⟨fun _=>by kernel_rfl,fun _=>by kernel_rfl⟩
theorem aggAns3:AggT Try.prog 68 5:=⟨fun _=>by kernel_rfl,fun _=>by kernel_rfl⟩
structure Ans3 where
 Q:Nat
 R:Nat
 W:Nat
 N:Int
 E:Int
def AnsR3 (b:Nat) (t:Ans3) (v:Value) (w:World):Prop:=∃q r,v= .agg #[q,r,.int .u64 ((t.W:Nat):Int),.int .i64 t.N,.int .i64 t.E]∧WR b t.Q q w∧WR b t.R r w∧(wd t.Q).length≤68719476735∧(wd t.R).length≤68719476735
theorem g_same3 {w:World}{b b':Nat}{A B:Option Addr}{n c m d k:Nat}(hx:Own w b 24 1 A n c ((wd k).map W64)) (hl:n≤1099511627776) (hy:Own w b' 24 1 B m d ((wd k).map W64)) (hl':m≤1099511627776):
  Calls Try.prog 71 #[.slice A n c,.slice B m d] w (Gv w (Is (.bool true))):=by
 have h:=ref1_Same (hx.rd (Wf_wd _)) hl (hy.rd (Wf_wd _)) hl'
 rw [decide_eq_true rfl] at h
 exact h.mono gbool
noncomputable def spec3 (k kk:Int) (X Y v:Nat):Ans3:=
 if k=1 then ⟨X/v,0,rm3 X v,0,er3 v⟩ else if k=2 then ⟨X/Y,rm3 X Y,0,0,er3 Y⟩ else if k=3 then ⟨xt3 X Y,0,0,0,xe3 X Y⟩ else if k=4 then ⟨Nat.gcd X Y,0,0,0,0⟩ else if k=5 then ⟨rt3 X 2,X-rt3 X 2*rt3 X 2,0,0,0⟩ else
 if k=6 then ⟨stL X Y,0,0,((stN X Y:Nat):Int),stE X Y⟩ else if k=7 then ⟨roV X kk,0,0,0,roE kk⟩ else ⟨0,0,0,0,0⟩
theorem bool_of3 {w:World}{b:Bool}:∀e w',Gv w (Is (.bool b)) e w'→BoolP b w e w':=by
 rintro e w' ⟨v,rfl,rfl,hx⟩
 exact⟨rfl,hx⟩
set_option maxHeartbeats 4000000 in
theorem g_wants3_1 {w:World}{b:Nat}(hb:b≤w.heap.size){A:Option Addr}{n cap X:Nat}(hx:Wi w A n cap X) (hl:n≤1048576){B:Option Addr}{n' cap' Y:Nat}(hy:Wi w B n' cap' Y) (hl':n'≤1048576){v:Nat}{kk:Int}(hv:v≤18446744073709551615) (hkk:kk≤9223372036854775807):
    Calls Try.prog 34 #[.agg #[.int .i64 1,.slice A n cap,.slice B n' cap',.int .u64 ((v:Nat):Int),.int .i64 kk]] w (Gv w (AnsR3 b (spec3 1 kk X Y v))):=by
 have hXl:(wd X).length≤68719476735:=Nat.le_trans hx.len (lx_ hl rfl)
 have hYl:(wd Y).length≤68719476735:=Nat.le_trans hy.len (Nat.le_trans hl' (by decide))
 refine sx_enter Try.func34 rfl (n:=91) rfl (bq rfl) (args:= [.agg #[.int .i64 1,.slice A n cap,.slice B n' cap',.int .u64 ((v:Nat):Int),.int .i64 kk]]) (cw_keep [(0,.agg #[.int .i64 1,.slice A n cap,.slice B n' cap',.int .u64 ((v:Nat):Int),.int .i64 kk])] ⟨rfl,trivial⟩ (sr (bx [.int .i64 1,.slice A n cap,.slice B n' cap',.int .u64 ((v:Nat):Int),.int .i64 kk] (Ext.refl w) rfl rfl rfl fun g1 v2 hb4 ge5 e3 hw1=>(alq [S0,S0,.int .u64 0,I0,I0] hw1 hb4.lt (fun _=>by kernel_rfl) rfl fun g6 v7 hb9 ge10 q11 e8 hw2=>(ne_ (sr (alq [S0,S0,.int .u64 0,I0,I0] hw2 hb9.lt (fun _=>by kernel_rfl) rfl fun g12 v13 hb15 ge16 q17 e14 hw3=>(ne_ (cw_seq (sr (pf g1 0 rfl (by kernel_rfl) (wl_load rfl rfl (load_cell (fun _=>by kernel_rfl) (hb4.ext (e8.trans e14)) rfl) (by decide) (wl_nil ?_)))))))))))))
 refine eo_then (cw_block (sr (wl_cmp rfl rfl rfl true (by decide) (by decide) (mv 1 rfl (ne_ (cw_true rfl (cw_region (pf g1 1 rfl (by kernel_rfl) (wl_load rfl rfl (load_cell (fun _=>by kernel_rfl) (hb4.ext (e8.trans e14)) rfl) (by decide) (pf g1 3 rfl (by kernel_rfl) (wl_load rfl rfl (load_cell (fun _=>by kernel_rfl) (hb4.ext (e8.trans e14)) rfl) (by decide) (cl (vs:= [.slice A n cap,.int .u64 ((v:Nat):Int)]) hw3 (j3_rWord hw3.size (hx.ext hw3) (lx_ hl rfl) hv) rfl (by kernel_rfl) fun xr20 v18 r20 e19 hw4=>?_))))))))))))
 obtain⟨_,_,_,rfl,⟨A22,n22,c22,rfl,j22,o22⟩,rfl,rfl⟩:=r20
 refine mv 1 rfl (pu (v:= .slice A22 n22 c22) rfl (by kernel_rfl) (pu (v:= .int .u64 ((rm3 X v:Nat):Int)) rfl (by kernel_rfl) (pu (v:= .int .i64 (er3 v)) rfl (by kernel_rfl) (pf g12 0 rfl (by kernel_rfl) ?_))))
 have hb24:=(hb15.ext e19)
 refine wl_stored1 rfl rfl rfl (fun _=>by kernel_rfl) rfl hb24 (bq rfl) rfl [.slice A22 n22 c22,S0,.int .u64 0,I0,I0] rfl fun v23 hb25 u26 hs27=>?_
 have hw5:=u26.ext hw4 ge16
 refine pf g12 2 rfl (by kernel_rfl) (wl_stored1 rfl rfl rfl (fun _=>by kernel_rfl) rfl hb25 (bq rfl) rfl [.slice A22 n22 c22,S0,.int .u64 ((rm3 X v:Nat):Int),I0,I0] rfl fun v28 hb30 u31 hs32=>?_)
 have hw6:=u31.ext hw5 ge16
 refine pf g12 4 rfl (by kernel_rfl) (wl_stored1 rfl rfl rfl (fun _=>by kernel_rfl) rfl hb30 (bq rfl) rfl [.slice A22 n22 c22,S0,.int .u64 ((rm3 X v:Nat):Int),I0,.int .i64 (er3 v)] rfl fun v33 hb35 u36 hs37=>?_)
 have hw7:=u36.ext hw6 ge16
 refine wl_nil (eo_block_normal (eo_then (sr (lo aggAns3 hb35 [.slice A22 n22 c22,S0,.int .u64 ((rm3 X v:Nat):Int),I0,.int .i64 (er3 v)] rfl rfl rfl ?_))))
 have hb39:=((((hb9.ext (e14.trans e19)).updN u26 (by omega)).updN u31 (by omega)).updN u36 (by omega))
 refine so aggAns3 hb39 [.slice A22 n22 c22,S0,.int .u64 ((rm3 X v:Nat):Int),I0,.int .i64 (er3 v)] hw7 ge10 rfl rfl rfl rfl fun v38 hb40 u41 hw8=>(ne_ (cw_ret (eo_ret [.agg #[.slice A22 n22 c22,S0,.int .u64 ((rm3 X v:Nat):Int),I0,.int .i64 (er3 v)]] rfl ⟨⟨_,rfl,load_agg aggAns3 hb40 [.slice A22 n22 c22,S0,.int .u64 ((rm3 X v:Nat):Int),I0,.int .i64 (er3 v)] rfl (bq rfl) rfl⟩,trivial⟩ ?_)))
 have hs:spec3 1 kk X Y v=(⟨X/v,0,rm3 X v,0,er3 v⟩:Ans3):=rfl
 rw [hs]
 exact⟨_,rfl,⟨_,_,rfl,⟨_,_,_,rfl,j22,((((o22.updT hb24 (by decide) u26).updT hb25 (by decide) u31).updT hb30 (by decide) u36).updT hb39 (by decide) u41).mono hb⟩,wr_nil3,(len_d3 hXl),(show (wd 0).length≤68719476735 by decide)⟩,hw8⟩
set_option maxHeartbeats 4000000 in
theorem g_wants3_2 {w:World}{b:Nat}(hb:b≤w.heap.size){A:Option Addr}{n cap X:Nat}(hx:Wi w A n cap X) (hl:n≤1048576){B:Option Addr}{n' cap' Y:Nat}(hy:Wi w B n' cap' Y) (hl':n'≤1048576){v:Nat}{kk:Int}(hv:v≤18446744073709551615) (hkk:kk≤9223372036854775807):
    Calls Try.prog 34 #[.agg #[.int .i64 2,.slice A n cap,.slice B n' cap',.int .u64 ((v:Nat):Int),.int .i64 kk]] w (Gv w (AnsR3 b (spec3 2 kk X Y v))):=by
 have hXl:(wd X).length≤68719476735:=Nat.le_trans hx.len (lx_ hl rfl)
 have hYl:(wd Y).length≤68719476735:=Nat.le_trans hy.len (Nat.le_trans hl' (by decide))
 refine sx_enter Try.func34 rfl (n:=91) rfl (bq rfl) (args:= [.agg #[.int .i64 2,.slice A n cap,.slice B n' cap',.int .u64 ((v:Nat):Int),.int .i64 kk]]) (cw_keep [(0,.agg #[.int .i64 2,.slice A n cap,.slice B n' cap',.int .u64 ((v:Nat):Int),.int .i64 kk])] ⟨rfl,trivial⟩ (sr (bx [.int .i64 2,.slice A n cap,.slice B n' cap',.int .u64 ((v:Nat):Int),.int .i64 kk] (Ext.refl w) rfl rfl rfl fun g1 v2 hb4 ge5 e3 hw1=>(alq [S0,S0,.int .u64 0,I0,I0] hw1 hb4.lt (fun _=>by kernel_rfl) rfl fun g6 v7 hb9 ge10 q11 e8 hw2=>(ne_ (sr (alq [S0,S0,.int .u64 0,I0,I0] hw2 hb9.lt (fun _=>by kernel_rfl) rfl fun g12 v13 hb15 ge16 q17 e14 hw3=>(ne_ (cw_seq (sr (pf g1 0 rfl (by kernel_rfl) (wl_load rfl rfl (load_cell (fun _=>by kernel_rfl) (hb4.ext (e8.trans e14)) rfl) (by decide) (wl_nil ?_)))))))))))))
 refine eo_then (cw_block (sr (wl_cmp rfl rfl rfl false (by decide) (by decide) (mv 1 rfl (ne_ (cw_false rfl (sr (wl_cmp rfl rfl rfl true (by decide) (by decide) (mv 1 rfl (ne_ (cw_true rfl (cw_region (pf g1 1 rfl (by kernel_rfl) ?_)))))))))))))
 refine wl_load rfl rfl (load_cell (fun _=>by kernel_rfl) (hb4.ext (e8.trans e14)) rfl) (by decide) (pf g1 2 rfl (by kernel_rfl) (wl_load rfl rfl (load_cell (fun _=>by kernel_rfl) (hb4.ext (e8.trans e14)) rfl) (by decide) (cl (vs:= [.slice A n cap,.slice B n' cap']) hw3 (j3_rDivMod hw3.size (hx.ext hw3) (lx_ hl rfl) (hy.ext hw3) (Nat.le_trans hl' (by decide))) rfl (by kernel_rfl) fun xr20 v18 r20 e19 hw4=>?_)))
 obtain⟨_,_,_,rfl,⟨A22,n22,c22,rfl,j22,o22⟩,⟨A23,n23,c23,rfl,j23,o23⟩,rfl⟩:=r20
 refine mv 1 rfl (pu (v:= .slice A22 n22 c22) rfl (by kernel_rfl) (pu (v:= .slice A23 n23 c23) rfl (by kernel_rfl) (pu (v:= .int .i64 (er3 Y)) rfl (by kernel_rfl) (pf g12 0 rfl (by kernel_rfl) ?_))))
 have hb25:=(hb15.ext e19)
 refine wl_stored1 rfl rfl rfl (fun _=>by kernel_rfl) rfl hb25 (bq rfl) rfl [.slice A22 n22 c22,S0,.int .u64 0,I0,I0] rfl fun v24 hb26 u27 hs28=>?_
 have hw5:=u27.ext hw4 ge16
 refine pf g12 1 rfl (by kernel_rfl) (wl_stored1 rfl rfl rfl (fun _=>by kernel_rfl) rfl hb26 (bq rfl) rfl [.slice A22 n22 c22,.slice A23 n23 c23,.int .u64 0,I0,I0] rfl fun v29 hb31 u32 hs33=>?_)
 have hw6:=u32.ext hw5 ge16
 refine pf g12 4 rfl (by kernel_rfl) (wl_stored1 rfl rfl rfl (fun _=>by kernel_rfl) rfl hb31 (bq rfl) rfl [.slice A22 n22 c22,.slice A23 n23 c23,.int .u64 0,I0,.int .i64 (er3 Y)] rfl fun v34 hb36 u37 hs38=>?_)
 have hw7:=u37.ext hw6 ge16
 refine wl_nil (eo_block_normal (eo_then (sr (lo aggAns3 hb36 [.slice A22 n22 c22,.slice A23 n23 c23,.int .u64 0,I0,.int .i64 (er3 Y)] rfl rfl rfl ?_))))
 have hb40:=((((hb9.ext (e14.trans e19)).updN u27 (by omega)).updN u32 (by omega)).updN u37 (by omega))
 refine so aggAns3 hb40 [.slice A22 n22 c22,.slice A23 n23 c23,.int .u64 0,I0,.int .i64 (er3 Y)] hw7 ge10 rfl rfl rfl rfl fun v39 hb41 u42 hw8=>(ne_ (cw_ret (eo_ret [.agg #[.slice A22 n22 c22,.slice A23 n23 c23,.int .u64 0,I0,.int .i64 (er3 Y)]] rfl ⟨⟨_,rfl,load_agg aggAns3 hb41 [.slice A22 n22 c22,.slice A23 n23 c23,.int .u64 0,I0,.int .i64 (er3 Y)] rfl (bq rfl) rfl⟩,trivial⟩ ?_)))
 have hs:spec3 2 kk X Y v=(⟨X/Y,rm3 X Y,0,0,er3 Y⟩:Ans3):=rfl
 rw [hs]
 exact⟨_,rfl,⟨_,_,rfl,⟨_,_,_,rfl,j22,((((o22.updT hb25 (by decide) u27).updT hb26 (by decide) u32).updT hb31 (by decide) u37).updT hb40 (by decide) u42).mono hb⟩,⟨_,_,_,rfl,j23,((((o23.updT hb25 (by decide) u27).updT hb26 (by decide) u32).updT hb31 (by decide) u37).updT hb40 (by decide) u42).mono hb⟩,(len_d3 hXl),(len_rm3 hXl)⟩,hw8⟩
set_option maxHeartbeats 4000000 in
theorem g_wants3_3 {w:World}{b:Nat}(hb:b≤w.heap.size){A:Option Addr}{n cap X:Nat}(hx:Wi w A n cap X) (hl:n≤1048576){B:Option Addr}{n' cap' Y:Nat}(hy:Wi w B n' cap' Y) (hl':n'≤1048576){v:Nat}{kk:Int}(hv:v≤18446744073709551615) (hkk:kk≤9223372036854775807):
    Calls Try.prog 34 #[.agg #[.int .i64 3,.slice A n cap,.slice B n' cap',.int .u64 ((v:Nat):Int),.int .i64 kk]] w (Gv w (AnsR3 b (spec3 3 kk X Y v))):=by
 have hXl:(wd X).length≤68719476735:=Nat.le_trans hx.len (lx_ hl rfl)
 have hYl:(wd Y).length≤68719476735:=Nat.le_trans hy.len (Nat.le_trans hl' (by decide))
 refine sx_enter Try.func34 rfl (n:=91) rfl (bq rfl) (args:= [.agg #[.int .i64 3,.slice A n cap,.slice B n' cap',.int .u64 ((v:Nat):Int),.int .i64 kk]]) (cw_keep [(0,.agg #[.int .i64 3,.slice A n cap,.slice B n' cap',.int .u64 ((v:Nat):Int),.int .i64 kk])] ⟨rfl,trivial⟩ (sr (bx [.int .i64 3,.slice A n cap,.slice B n' cap',.int .u64 ((v:Nat):Int),.int .i64 kk] (Ext.refl w) rfl rfl rfl fun g1 v2 hb4 ge5 e3 hw1=>(alq [S0,S0,.int .u64 0,I0,I0] hw1 hb4.lt (fun _=>by kernel_rfl) rfl fun g6 v7 hb9 ge10 q11 e8 hw2=>(ne_ (sr (alq [S0,S0,.int .u64 0,I0,I0] hw2 hb9.lt (fun _=>by kernel_rfl) rfl fun g12 v13 hb15 ge16 q17 e14 hw3=>(ne_ (cw_seq (sr (pf g1 0 rfl (by kernel_rfl) (wl_load rfl rfl (load_cell (fun _=>by kernel_rfl) (hb4.ext (e8.trans e14)) rfl) (by decide) (wl_nil ?_)))))))))))))
 refine eo_then (cw_block (sr (wl_cmp rfl rfl rfl false (by decide) (by decide) (mv 1 rfl (ne_ (cw_false rfl (sr (wl_cmp rfl rfl rfl false (by decide) (by decide) (mv 1 rfl (ne_ (cw_false rfl (sr (wl_cmp rfl rfl rfl true (by decide) (by decide) ?_)))))))))))))
 refine mv 1 rfl (ne_ (cw_true rfl (cw_region (pf g1 1 rfl (by kernel_rfl) (wl_load rfl rfl (load_cell (fun _=>by kernel_rfl) (hb4.ext (e8.trans e14)) rfl) (by decide) (pf g1 2 rfl (by kernel_rfl) (wl_load rfl rfl (load_cell (fun _=>by kernel_rfl) (hb4.ext (e8.trans e14)) rfl) (by decide) (cl (vs:= [.slice A n cap,.slice B n' cap']) hw3 (j3_rExact hw3.size (hx.ext hw3) (lx_ hl rfl) (hy.ext hw3) (Nat.le_trans hl' (by decide))) rfl (by kernel_rfl) fun xr20 v18 r20 e19 hw4=>?_))))))))
 obtain⟨_,_,rfl,⟨A22,n22,c22,rfl,j22,o22⟩,rfl⟩:=r20
 refine mv 1 rfl (pu (v:= .slice A22 n22 c22) rfl (by kernel_rfl) (pu (v:= .int .i64 (xe3 X Y)) rfl (by kernel_rfl) (pf g12 0 rfl (by kernel_rfl) ?_)))
 have hb24:=(hb15.ext e19)
 refine wl_stored1 rfl rfl rfl (fun _=>by kernel_rfl) rfl hb24 (bq rfl) rfl [.slice A22 n22 c22,S0,.int .u64 0,I0,I0] rfl fun v23 hb25 u26 hs27=>?_
 have hw5:=u26.ext hw4 ge16
 refine pf g12 4 rfl (by kernel_rfl) (wl_stored1 rfl rfl rfl (fun _=>by kernel_rfl) rfl hb25 (bq rfl) rfl [.slice A22 n22 c22,S0,.int .u64 0,I0,.int .i64 (xe3 X Y)] rfl fun v28 hb30 u31 hs32=>?_)
 have hw6:=u31.ext hw5 ge16
 refine wl_nil (eo_block_normal (eo_then (sr (lo aggAns3 hb30 [.slice A22 n22 c22,S0,.int .u64 0,I0,.int .i64 (xe3 X Y)] rfl rfl rfl ?_))))
 have hb34:=(((hb9.ext (e14.trans e19)).updN u26 (by omega)).updN u31 (by omega))
 refine so aggAns3 hb34 [.slice A22 n22 c22,S0,.int .u64 0,I0,.int .i64 (xe3 X Y)] hw6 ge10 rfl rfl rfl rfl fun v33 hb35 u36 hw7=>(ne_ (cw_ret (eo_ret [.agg #[.slice A22 n22 c22,S0,.int .u64 0,I0,.int .i64 (xe3 X Y)]] rfl ⟨⟨_,rfl,load_agg aggAns3 hb35 [.slice A22 n22 c22,S0,.int .u64 0,I0,.int .i64 (xe3 X Y)] rfl (bq rfl) rfl⟩,trivial⟩ ?_)))
 have hs:spec3 3 kk X Y v=(⟨xt3 X Y,0,0,0,xe3 X Y⟩:Ans3):=rfl
 rw [hs]
 exact⟨_,rfl,⟨_,_,rfl,⟨_,_,_,rfl,j22,(((o22.updT hb24 (by decide) u26).updT hb25 (by decide) u31).updT hb34 (by decide) u36).mono hb⟩,wr_nil3,(len_xt3 hXl),(show (wd 0).length≤68719476735 by decide)⟩,hw7⟩
set_option maxHeartbeats 4000000 in
theorem g_wants3_4 {w:World}{b:Nat}(hb:b≤w.heap.size){A:Option Addr}{n cap X:Nat}(hx:Wi w A n cap X) (hl:n≤1048576){B:Option Addr}{n' cap' Y:Nat}(hy:Wi w B n' cap' Y) (hl':n'≤1048576){v:Nat}{kk:Int}(hv:v≤18446744073709551615) (hkk:kk≤9223372036854775807):
    Calls Try.prog 34 #[.agg #[.int .i64 4,.slice A n cap,.slice B n' cap',.int .u64 ((v:Nat):Int),.int .i64 kk]] w (Gv w (AnsR3 b (spec3 4 kk X Y v))):=by
 have hXl:(wd X).length≤68719476735:=Nat.le_trans hx.len (lx_ hl rfl)
 have hYl:(wd Y).length≤68719476735:=Nat.le_trans hy.len (Nat.le_trans hl' (by decide))
 refine sx_enter Try.func34 rfl (n:=91) rfl (bq rfl) (args:= [.agg #[.int .i64 4,.slice A n cap,.slice B n' cap',.int .u64 ((v:Nat):Int),.int .i64 kk]]) (cw_keep [(0,.agg #[.int .i64 4,.slice A n cap,.slice B n' cap',.int .u64 ((v:Nat):Int),.int .i64 kk])] ⟨rfl,trivial⟩ (sr (bx [.int .i64 4,.slice A n cap,.slice B n' cap',.int .u64 ((v:Nat):Int),.int .i64 kk] (Ext.refl w) rfl rfl rfl fun g1 v2 hb4 ge5 e3 hw1=>(alq [S0,S0,.int .u64 0,I0,I0] hw1 hb4.lt (fun _=>by kernel_rfl) rfl fun g6 v7 hb9 ge10 q11 e8 hw2=>(ne_ (sr (alq [S0,S0,.int .u64 0,I0,I0] hw2 hb9.lt (fun _=>by kernel_rfl) rfl fun g12 v13 hb15 ge16 q17 e14 hw3=>(ne_ (cw_seq (sr (pf g1 0 rfl (by kernel_rfl) (wl_load rfl rfl (load_cell (fun _=>by kernel_rfl) (hb4.ext (e8.trans e14)) rfl) (by decide) (wl_nil ?_)))))))))))))
 refine eo_then (cw_block (sr (wl_cmp rfl rfl rfl false (by decide) (by decide) (mv 1 rfl (ne_ (cw_false rfl (sr (wl_cmp rfl rfl rfl false (by decide) (by decide) (mv 1 rfl (ne_ (cw_false rfl (sr (wl_cmp rfl rfl rfl false (by decide) (by decide) ?_)))))))))))))
 refine mv 1 rfl (ne_ (cw_false rfl (sr (wl_cmp rfl rfl rfl true (by decide) (by decide) (mv 1 rfl (ne_ (cw_true rfl (cw_region (pf g1 1 rfl (by kernel_rfl) (wl_load rfl rfl (load_cell (fun _=>by kernel_rfl) (hb4.ext (e8.trans e14)) rfl) (by decide) (pf g1 2 rfl (by kernel_rfl) (wl_load rfl rfl (load_cell (fun _=>by kernel_rfl) (hb4.ext (e8.trans e14)) rfl) (by decide) (cl (vs:= [.slice A n cap,.slice B n' cap']) hw3 (j3_rGcd hw3.size (hx.ext hw3) (lx_ hl rfl) (hy.ext hw3) (Nat.le_trans hl' (by decide))) rfl (by kernel_rfl) fun xr20 v18 r20 e19 hw4=>?_)))))))))))))
 obtain⟨A21,n21,c21,rfl,j21,o21⟩:=r20
 refine pf g12 0 rfl (by kernel_rfl) ?_
 have hb23:=(hb15.ext e19)
 refine wl_stored1 rfl rfl rfl (fun _=>by kernel_rfl) rfl hb23 (bq rfl) rfl [.slice A21 n21 c21,S0,.int .u64 0,I0,I0] rfl fun v22 hb24 u25 hs26=>?_
 have hw5:=u25.ext hw4 ge16
 refine wl_nil (eo_block_normal (eo_then (sr (lo aggAns3 hb24 [.slice A21 n21 c21,S0,.int .u64 0,I0,I0] rfl rfl rfl ?_))))
 have hb28:=((hb9.ext (e14.trans e19)).updN u25 (by omega))
 refine so aggAns3 hb28 [.slice A21 n21 c21,S0,.int .u64 0,I0,I0] hw5 ge10 rfl rfl rfl rfl fun v27 hb29 u30 hw6=>(ne_ (cw_ret (eo_ret [.agg #[.slice A21 n21 c21,S0,.int .u64 0,I0,I0]] rfl ⟨⟨_,rfl,load_agg aggAns3 hb29 [.slice A21 n21 c21,S0,.int .u64 0,I0,I0] rfl (bq rfl) rfl⟩,trivial⟩ ?_)))
 have hs:spec3 4 kk X Y v=(⟨Nat.gcd X Y,0,0,0,0⟩:Ans3):=by unfold spec3;rw [if_neg (by decide),if_neg (by decide),if_neg (by decide),if_pos rfl]
 rw [hs]
 exact⟨_,rfl,⟨_,_,rfl,⟨_,_,_,rfl,j21,((o21.updT hb23 (by decide) u25).updT hb28 (by decide) u30).mono hb⟩,wr_nil3,(len_gcd3 hXl hYl),(show (wd 0).length≤68719476735 by decide)⟩,hw6⟩
set_option maxHeartbeats 4000000 in
theorem g_wants3_5 {w:World}{b:Nat}(hb:b≤w.heap.size){A:Option Addr}{n cap X:Nat}(hx:Wi w A n cap X) (hl:n≤1048576){B:Option Addr}{n' cap' Y:Nat}(hy:Wi w B n' cap' Y) (hl':n'≤1048576){v:Nat}{kk:Int}(hv:v≤18446744073709551615) (hkk:kk≤9223372036854775807):
    Calls Try.prog 34 #[.agg #[.int .i64 5,.slice A n cap,.slice B n' cap',.int .u64 ((v:Nat):Int),.int .i64 kk]] w (Gv w (AnsR3 b (spec3 5 kk X Y v))):=by
 have hXl:(wd X).length≤68719476735:=Nat.le_trans hx.len (lx_ hl rfl)
 have hYl:(wd Y).length≤68719476735:=Nat.le_trans hy.len (Nat.le_trans hl' (by decide))
 refine sx_enter Try.func34 rfl (n:=91) rfl (bq rfl) (args:= [.agg #[.int .i64 5,.slice A n cap,.slice B n' cap',.int .u64 ((v:Nat):Int),.int .i64 kk]]) (cw_keep [(0,.agg #[.int .i64 5,.slice A n cap,.slice B n' cap',.int .u64 ((v:Nat):Int),.int .i64 kk])] ⟨rfl,trivial⟩ (sr (bx [.int .i64 5,.slice A n cap,.slice B n' cap',.int .u64 ((v:Nat):Int),.int .i64 kk] (Ext.refl w) rfl rfl rfl fun g1 v2 hb4 ge5 e3 hw1=>(alq [S0,S0,.int .u64 0,I0,I0] hw1 hb4.lt (fun _=>by kernel_rfl) rfl fun g6 v7 hb9 ge10 q11 e8 hw2=>(ne_ (sr (alq [S0,S0,.int .u64 0,I0,I0] hw2 hb9.lt (fun _=>by kernel_rfl) rfl fun g12 v13 hb15 ge16 q17 e14 hw3=>(ne_ (cw_seq (sr (pf g1 0 rfl (by kernel_rfl) (wl_load rfl rfl (load_cell (fun _=>by kernel_rfl) (hb4.ext (e8.trans e14)) rfl) (by decide) (wl_nil ?_)))))))))))))
 refine eo_then (cw_block (sr (wl_cmp rfl rfl rfl false (by decide) (by decide) (mv 1 rfl (ne_ (cw_false rfl (sr (wl_cmp rfl rfl rfl false (by decide) (by decide) (mv 1 rfl (ne_ (cw_false rfl (sr (wl_cmp rfl rfl rfl false (by decide) (by decide) ?_)))))))))))))
 refine mv 1 rfl (ne_ (cw_false rfl (sr (wl_cmp rfl rfl rfl false (by decide) (by decide) (mv 1 rfl (ne_ (cw_false rfl (sr (wl_cmp rfl rfl rfl true (by decide) (by decide) (mv 1 rfl (ne_ (cw_true rfl (cw_region ?_)))))))))))))
 refine pf g1 1 rfl (by kernel_rfl) (wl_load rfl rfl (load_cell (fun _=>by kernel_rfl) (hb4.ext (e8.trans e14)) rfl) (by decide) (cl (vs:= [.slice A n cap]) hw3 (j3_rSqrt hw3.size (hx.ext hw3) (lx_ hl rfl)) rfl (by kernel_rfl) fun xr20 v18 r20 e19 hw4=>?_))
 obtain⟨_,_,rfl,⟨A22,n22,c22,rfl,j22,o22⟩,⟨A23,n23,c23,rfl,j23,o23⟩⟩:=r20
 refine mv 1 rfl (pu (v:= .slice A22 n22 c22) rfl (by kernel_rfl) (pu (v:= .slice A23 n23 c23) rfl (by kernel_rfl) (pf g12 0 rfl (by kernel_rfl) ?_)))
 have hb25:=(hb15.ext e19)
 refine wl_stored1 rfl rfl rfl (fun _=>by kernel_rfl) rfl hb25 (bq rfl) rfl [.slice A22 n22 c22,S0,.int .u64 0,I0,I0] rfl fun v24 hb26 u27 hs28=>?_
 have hw5:=u27.ext hw4 ge16
 refine pf g12 1 rfl (by kernel_rfl) (wl_stored1 rfl rfl rfl (fun _=>by kernel_rfl) rfl hb26 (bq rfl) rfl [.slice A22 n22 c22,.slice A23 n23 c23,.int .u64 0,I0,I0] rfl fun v29 hb31 u32 hs33=>?_)
 have hw6:=u32.ext hw5 ge16
 refine wl_nil (eo_block_normal (eo_then (sr (lo aggAns3 hb31 [.slice A22 n22 c22,.slice A23 n23 c23,.int .u64 0,I0,I0] rfl rfl rfl ?_))))
 have hb35:=(((hb9.ext (e14.trans e19)).updN u27 (by omega)).updN u32 (by omega))
 refine so aggAns3 hb35 [.slice A22 n22 c22,.slice A23 n23 c23,.int .u64 0,I0,I0] hw6 ge10 rfl rfl rfl rfl fun v34 hb36 u37 hw7=>(ne_ (cw_ret (eo_ret [.agg #[.slice A22 n22 c22,.slice A23 n23 c23,.int .u64 0,I0,I0]] rfl ⟨⟨_,rfl,load_agg aggAns3 hb36 [.slice A22 n22 c22,.slice A23 n23 c23,.int .u64 0,I0,I0] rfl (bq rfl) rfl⟩,trivial⟩ ?_)))
 have hs:spec3 5 kk X Y v=(⟨rt3 X 2,X-rt3 X 2*rt3 X 2,0,0,0⟩:Ans3):=by unfold spec3;rw [if_neg (by decide),if_neg (by decide),if_neg (by decide),if_neg (by decide),if_pos rfl]
 rw [hs]
 exact⟨_,rfl,⟨_,_,rfl,⟨_,_,_,rfl,j22,(((o22.updT hb25 (by decide) u27).updT hb26 (by decide) u32).updT hb35 (by decide) u37).mono hb⟩,⟨_,_,_,rfl,j23,(((o23.updT hb25 (by decide) u27).updT hb26 (by decide) u32).updT hb35 (by decide) u37).mono hb⟩,(len_rt3 (by decide) hXl),(len_sub3 hXl)⟩,hw7⟩
set_option maxHeartbeats 4000000 in
theorem g_wants3_6 {w:World}{b:Nat}(hb:b≤w.heap.size){A:Option Addr}{n cap X:Nat}(hx:Wi w A n cap X) (hl:n≤1048576){B:Option Addr}{n' cap' Y:Nat}(hy:Wi w B n' cap' Y) (hl':n'≤1048576){v:Nat}{kk:Int}(hv:v≤18446744073709551615) (hkk:kk≤9223372036854775807):
    Calls Try.prog 34 #[.agg #[.int .i64 6,.slice A n cap,.slice B n' cap',.int .u64 ((v:Nat):Int),.int .i64 kk]] w (Gv w (AnsR3 b (spec3 6 kk X Y v))):=by
 have hXl:(wd X).length≤68719476735:=Nat.le_trans hx.len (lx_ hl rfl)
 have hYl:(wd Y).length≤68719476735:=Nat.le_trans hy.len (Nat.le_trans hl' (by decide))
 refine sx_enter Try.func34 rfl (n:=91) rfl (bq rfl) (args:= [.agg #[.int .i64 6,.slice A n cap,.slice B n' cap',.int .u64 ((v:Nat):Int),.int .i64 kk]]) (cw_keep [(0,.agg #[.int .i64 6,.slice A n cap,.slice B n' cap',.int .u64 ((v:Nat):Int),.int .i64 kk])] ⟨rfl,trivial⟩ (sr (bx [.int .i64 6,.slice A n cap,.slice B n' cap',.int .u64 ((v:Nat):Int),.int .i64 kk] (Ext.refl w) rfl rfl rfl fun g1 v2 hb4 ge5 e3 hw1=>(alq [S0,S0,.int .u64 0,I0,I0] hw1 hb4.lt (fun _=>by kernel_rfl) rfl fun g6 v7 hb9 ge10 q11 e8 hw2=>(ne_ (sr (alq [S0,S0,.int .u64 0,I0,I0] hw2 hb9.lt (fun _=>by kernel_rfl) rfl fun g12 v13 hb15 ge16 q17 e14 hw3=>(ne_ (cw_seq (sr (pf g1 0 rfl (by kernel_rfl) (wl_load rfl rfl (load_cell (fun _=>by kernel_rfl) (hb4.ext (e8.trans e14)) rfl) (by decide) (wl_nil ?_)))))))))))))
 refine eo_then (cw_block (sr (wl_cmp rfl rfl rfl false (by decide) (by decide) (mv 1 rfl (ne_ (cw_false rfl (sr (wl_cmp rfl rfl rfl false (by decide) (by decide) (mv 1 rfl (ne_ (cw_false rfl (sr (wl_cmp rfl rfl rfl false (by decide) (by decide) ?_)))))))))))))
 refine mv 1 rfl (ne_ (cw_false rfl (sr (wl_cmp rfl rfl rfl false (by decide) (by decide) (mv 1 rfl (ne_ (cw_false rfl (sr (wl_cmp rfl rfl rfl false (by decide) (by decide) (mv 1 rfl (ne_ (cw_false rfl (cw_seq ?_)))))))))))))
 refine cw_region (wl_cmp rfl rfl rfl true (by decide) (by decide) (mv 1 rfl (ne_ (cw_true rfl (cw_region (pf g1 1 rfl (by kernel_rfl) (wl_load rfl rfl (load_cell (fun _=>by kernel_rfl) (hb4.ext (e8.trans e14)) rfl) (by decide) (pf g1 2 rfl (by kernel_rfl) (wl_load rfl rfl (load_cell (fun _=>by kernel_rfl) (hb4.ext (e8.trans e14)) rfl) (by decide) (cl (vs:= [.slice A n cap,.slice B n' cap']) hw3 (j3_rStrip hw3.size (hx.ext hw3) (lx_ hl rfl) (hy.ext hw3) (Nat.le_trans hl' (by decide))) rfl (by kernel_rfl) fun xr20 v18 r20 e19 hw4=>?_))))))))))
 obtain⟨_,_,_,rfl,rfl,⟨A22,n22,c22,rfl,j22,o22⟩,rfl⟩:=r20
 refine mv 1 rfl (pu (v:= .int .i64 ((stN X Y:Nat):Int)) rfl (by kernel_rfl) (pu (v:= .slice A22 n22 c22) rfl (by kernel_rfl) (pu (v:= .int .i64 (stE X Y)) rfl (by kernel_rfl) (pf g12 3 rfl (by kernel_rfl) ?_))))
 have hb24:=(hb15.ext e19)
 refine wl_stored1 rfl rfl rfl (fun _=>by kernel_rfl) rfl hb24 (bq rfl) rfl [S0,S0,.int .u64 0,.int .i64 ((stN X Y:Nat):Int),I0] rfl fun v23 hb25 u26 hs27=>?_
 have hw5:=u26.ext hw4 ge16
 refine pf g12 0 rfl (by kernel_rfl) (wl_stored1 rfl rfl rfl (fun _=>by kernel_rfl) rfl hb25 (bq rfl) rfl [.slice A22 n22 c22,S0,.int .u64 0,.int .i64 ((stN X Y:Nat):Int),I0] rfl fun v28 hb30 u31 hs32=>?_)
 have hw6:=u31.ext hw5 ge16
 refine pf g12 4 rfl (by kernel_rfl) (wl_stored1 rfl rfl rfl (fun _=>by kernel_rfl) rfl hb30 (bq rfl) rfl [.slice A22 n22 c22,S0,.int .u64 0,.int .i64 ((stN X Y:Nat):Int),.int .i64 (stE X Y)] rfl fun v33 hb35 u36 hs37=>?_)
 have hw7:=u36.ext hw6 ge16
 refine wl_nil (eo_block_normal (eo_then (sr (lo aggAns3 hb35 [.slice A22 n22 c22,S0,.int .u64 0,.int .i64 ((stN X Y:Nat):Int),.int .i64 (stE X Y)] rfl rfl rfl ?_))))
 have hb39:=((((hb9.ext (e14.trans e19)).updN u26 (by omega)).updN u31 (by omega)).updN u36 (by omega))
 refine so aggAns3 hb39 [.slice A22 n22 c22,S0,.int .u64 0,.int .i64 ((stN X Y:Nat):Int),.int .i64 (stE X Y)] hw7 ge10 rfl rfl rfl rfl fun v38 hb40 u41 hw8=>(ne_ (cw_ret (eo_ret [.agg #[.slice A22 n22 c22,S0,.int .u64 0,.int .i64 ((stN X Y:Nat):Int),.int .i64 (stE X Y)]] rfl ⟨⟨_,rfl,load_agg aggAns3 hb40 [.slice A22 n22 c22,S0,.int .u64 0,.int .i64 ((stN X Y:Nat):Int),.int .i64 (stE X Y)] rfl (bq rfl) rfl⟩,trivial⟩ ?_)))
 have hs:spec3 6 kk X Y v=(⟨stL X Y,0,0,((stN X Y:Nat):Int),stE X Y⟩:Ans3):=by unfold spec3;rw [if_neg (by decide),if_neg (by decide),if_neg (by decide),if_neg (by decide),if_neg (by decide),if_pos rfl]
 rw [hs]
 exact⟨_,rfl,⟨_,_,rfl,⟨_,_,_,rfl,j22,((((o22.updT hb24 (by decide) u26).updT hb25 (by decide) u31).updT hb30 (by decide) u36).updT hb39 (by decide) u41).mono hb⟩,wr_nil3,(len_stL hXl),(show (wd 0).length≤68719476735 by decide)⟩,hw8⟩
set_option maxHeartbeats 4000000 in
theorem g_wants3_7 {w:World}{b:Nat}(hb:b≤w.heap.size){A:Option Addr}{n cap X:Nat}(hx:Wi w A n cap X) (hl:n≤1048576){B:Option Addr}{n' cap' Y:Nat}(hy:Wi w B n' cap' Y) (hl':n'≤1048576){v:Nat}{kk:Int}(hv:v≤18446744073709551615) (hkk:kk≤9223372036854775807):
    Calls Try.prog 34 #[.agg #[.int .i64 7,.slice A n cap,.slice B n' cap',.int .u64 ((v:Nat):Int),.int .i64 kk]] w (Gv w (AnsR3 b (spec3 7 kk X Y v))):=by
 have hXl:(wd X).length≤68719476735:=Nat.le_trans hx.len (lx_ hl rfl)
 have hYl:(wd Y).length≤68719476735:=Nat.le_trans hy.len (Nat.le_trans hl' (by decide))
 refine sx_enter Try.func34 rfl (n:=91) rfl (bq rfl) (args:= [.agg #[.int .i64 7,.slice A n cap,.slice B n' cap',.int .u64 ((v:Nat):Int),.int .i64 kk]]) (cw_keep [(0,.agg #[.int .i64 7,.slice A n cap,.slice B n' cap',.int .u64 ((v:Nat):Int),.int .i64 kk])] ⟨rfl,trivial⟩ (sr (bx [.int .i64 7,.slice A n cap,.slice B n' cap',.int .u64 ((v:Nat):Int),.int .i64 kk] (Ext.refl w) rfl rfl rfl fun g1 v2 hb4 ge5 e3 hw1=>(alq [S0,S0,.int .u64 0,I0,I0] hw1 hb4.lt (fun _=>by kernel_rfl) rfl fun g6 v7 hb9 ge10 q11 e8 hw2=>(ne_ (sr (alq [S0,S0,.int .u64 0,I0,I0] hw2 hb9.lt (fun _=>by kernel_rfl) rfl fun g12 v13 hb15 ge16 q17 e14 hw3=>(ne_ (cw_seq (sr (pf g1 0 rfl (by kernel_rfl) (wl_load rfl rfl (load_cell (fun _=>by kernel_rfl) (hb4.ext (e8.trans e14)) rfl) (by decide) (wl_nil ?_)))))))))))))
 refine eo_then (cw_block (sr (wl_cmp rfl rfl rfl false (by decide) (by decide) (mv 1 rfl (ne_ (cw_false rfl (sr (wl_cmp rfl rfl rfl false (by decide) (by decide) (mv 1 rfl (ne_ (cw_false rfl (sr (wl_cmp rfl rfl rfl false (by decide) (by decide) ?_)))))))))))))
 refine mv 1 rfl (ne_ (cw_false rfl (sr (wl_cmp rfl rfl rfl false (by decide) (by decide) (mv 1 rfl (ne_ (cw_false rfl (sr (wl_cmp rfl rfl rfl false (by decide) (by decide) (mv 1 rfl (ne_ (cw_false rfl (cw_seq ?_)))))))))))))
 refine cw_region (wl_cmp rfl rfl rfl false (by decide) (by decide) (mv 1 rfl (ne_ (cw_false rfl (sr (wl_cmp rfl rfl rfl true (by decide) (by decide) (mv 1 rfl (ne_ (cw_true rfl (cw_region (pf g1 1 rfl (by kernel_rfl) (wl_load rfl rfl (load_cell (fun _=>by kernel_rfl) (hb4.ext (e8.trans e14)) rfl) (by decide) (pf g1 4 rfl (by kernel_rfl) ?_)))))))))))))
 refine wl_load rfl rfl (load_cell (fun _=>by kernel_rfl) (hb4.ext (e8.trans e14)) rfl) (by decide) (cl (vs:= [.slice A n cap,.int .i64 kk]) hw3 (j3_rRoot hw3.size (hx.ext hw3) (lx_ hl rfl) hkk) rfl (by kernel_rfl) fun xr20 v18 r20 e19 hw4=>?_)
 obtain⟨_,_,rfl,⟨A22,n22,c22,rfl,j22,o22⟩,rfl⟩:=r20
 refine mv 1 rfl (pu (v:= .slice A22 n22 c22) rfl (by kernel_rfl) (pu (v:= .int .i64 (roE kk)) rfl (by kernel_rfl) (pf g12 0 rfl (by kernel_rfl) ?_)))
 have hb24:=(hb15.ext e19)
 refine wl_stored1 rfl rfl rfl (fun _=>by kernel_rfl) rfl hb24 (bq rfl) rfl [.slice A22 n22 c22,S0,.int .u64 0,I0,I0] rfl fun v23 hb25 u26 hs27=>?_
 have hw5:=u26.ext hw4 ge16
 refine pf g12 4 rfl (by kernel_rfl) (wl_stored1 rfl rfl rfl (fun _=>by kernel_rfl) rfl hb25 (bq rfl) rfl [.slice A22 n22 c22,S0,.int .u64 0,I0,.int .i64 (roE kk)] rfl fun v28 hb30 u31 hs32=>?_)
 have hw6:=u31.ext hw5 ge16
 refine wl_nil (eo_block_normal (eo_then (sr (lo aggAns3 hb30 [.slice A22 n22 c22,S0,.int .u64 0,I0,.int .i64 (roE kk)] rfl rfl rfl ?_))))
 have hb34:=(((hb9.ext (e14.trans e19)).updN u26 (by omega)).updN u31 (by omega))
 refine so aggAns3 hb34 [.slice A22 n22 c22,S0,.int .u64 0,I0,.int .i64 (roE kk)] hw6 ge10 rfl rfl rfl rfl fun v33 hb35 u36 hw7=>(ne_ (cw_ret (eo_ret [.agg #[.slice A22 n22 c22,S0,.int .u64 0,I0,.int .i64 (roE kk)]] rfl ⟨⟨_,rfl,load_agg aggAns3 hb35 [.slice A22 n22 c22,S0,.int .u64 0,I0,.int .i64 (roE kk)] rfl (bq rfl) rfl⟩,trivial⟩ ?_)))
 have hs:spec3 7 kk X Y v=(⟨roV X kk,0,0,0,roE kk⟩:Ans3):=by unfold spec3;rw [if_neg (by decide),if_neg (by decide),if_neg (by decide),if_neg (by decide),if_neg (by decide),if_neg (by decide),if_pos rfl]
 rw [hs]
 exact⟨_,rfl,⟨_,_,rfl,⟨_,_,_,rfl,j22,(((o22.updT hb24 (by decide) u26).updT hb25 (by decide) u31).updT hb34 (by decide) u36).mono hb⟩,wr_nil3,(len_roV hXl),(show (wd 0).length≤68719476735 by decide)⟩,hw7⟩
set_option maxHeartbeats 4000000 in
theorem g_wants3_k {w:World}{b:Nat}(hb:b≤w.heap.size){A:Option Addr}{n cap X:Nat}(hx:Wi w A n cap X) (hl:n≤1048576){B:Option Addr}{n' cap' Y:Nat}(hy:Wi w B n' cap' Y) (hl':n'≤1048576){v:Nat}{kk:Int}(hv:v≤18446744073709551615) (hkk:kk≤9223372036854775807){k:Int}(hk1:¬k=1) (hk2:¬k=2) (hk3:¬k=3) (hk4:¬k=4) (hk5:¬k=5) (hk6:¬k=6) (hk7:¬k=7):
    Calls Try.prog 34 #[.agg #[.int .i64 k,.slice A n cap,.slice B n' cap',.int .u64 ((v:Nat):Int),.int .i64 kk]] w (Gv w (AnsR3 b (spec3 k kk X Y v))):=by
 have hXl:(wd X).length≤68719476735:=Nat.le_trans hx.len (lx_ hl rfl)
 have hYl:(wd Y).length≤68719476735:=Nat.le_trans hy.len (Nat.le_trans hl' (by decide))
 refine sx_enter Try.func34 rfl (n:=91) rfl (bq rfl) (args:= [.agg #[.int .i64 k,.slice A n cap,.slice B n' cap',.int .u64 ((v:Nat):Int),.int .i64 kk]]) (cw_keep [(0,.agg #[.int .i64 k,.slice A n cap,.slice B n' cap',.int .u64 ((v:Nat):Int),.int .i64 kk])] ⟨rfl,trivial⟩ (sr (bx [.int .i64 k,.slice A n cap,.slice B n' cap',.int .u64 ((v:Nat):Int),.int .i64 kk] (Ext.refl w) rfl rfl rfl fun g1 v2 hb4 ge5 e3 hw1=>(alq [S0,S0,.int .u64 0,I0,I0] hw1 hb4.lt (fun _=>by kernel_rfl) rfl fun g6 v7 hb9 ge10 q11 e8 hw2=>(ne_ (sr (alq [S0,S0,.int .u64 0,I0,I0] hw2 hb9.lt (fun _=>by kernel_rfl) rfl fun g12 v13 hb15 ge16 q17 e14 hw3=>(ne_ (cw_seq (sr (pf g1 0 rfl (by kernel_rfl) (wl_load rfl rfl (load_cell (fun _=>by kernel_rfl) (hb4.ext (e8.trans e14)) rfl) (by decide) (wl_nil ?_)))))))))))))
 refine eo_then (cw_block (sr (wl_cmp rfl rfl rfl false (eq_f hk1) (by decide) (mv 1 rfl (ne_ (cw_false rfl (sr (wl_cmp rfl rfl rfl false (eq_f hk2) (by decide) (mv 1 rfl (ne_ (cw_false rfl (sr (wl_cmp rfl rfl rfl false (eq_f hk3) (by decide) ?_)))))))))))))
 refine mv 1 rfl (ne_ (cw_false rfl (sr (wl_cmp rfl rfl rfl false (eq_f hk4) (by decide) (mv 1 rfl (ne_ (cw_false rfl (sr (wl_cmp rfl rfl rfl false (eq_f hk5) (by decide) (mv 1 rfl (ne_ (cw_false rfl (cw_seq ?_)))))))))))))
 refine cw_region (wl_cmp rfl rfl rfl false (eq_f hk6) (by decide) (mv 1 rfl (ne_ (cw_false rfl (sr (wl_cmp rfl rfl rfl false (eq_f hk7) (by decide) (mv 1 rfl (ne_ (cw_false rfl (cw_skip (eo_block_normal (eo_then (cw_seq ?_)))))))))))))
 refine cw_region (lo aggAns3 hb15 [S0,S0,.int .u64 0,I0,I0] rfl rfl rfl ?_)
 have hb19:=(hb9.ext e14)
 refine so aggAns3 hb19 [S0,S0,.int .u64 0,I0,I0] hw3 ge10 rfl rfl rfl rfl fun v18 hb20 u21 hw4=>(ne_ (cw_ret (eo_ret [.agg #[S0,S0,.int .u64 0,I0,I0]] rfl ⟨⟨_,rfl,load_agg aggAns3 hb20 [S0,S0,.int .u64 0,I0,I0] rfl (bq rfl) rfl⟩,trivial⟩ ?_)))
 have hs:spec3 k kk X Y v=(⟨0,0,0,0,0⟩:Ans3):=by unfold spec3;rw [if_neg hk1,if_neg hk2,if_neg hk3,if_neg hk4,if_neg hk5,if_neg hk6,if_neg hk7]
 rw [hs]
 exact⟨_,rfl,⟨_,_,rfl,wr_nil3,wr_nil3,(show (wd 0).length≤68719476735 by decide),(show (wd 0).length≤68719476735 by decide)⟩,hw4⟩
theorem g_wants3 {w:World}{b:Nat}(hb:b≤w.heap.size){A:Option Addr}{n cap X:Nat}(hx:Wi w A n cap X) (hl:n≤1048576){B:Option Addr}{n' cap' Y:Nat}(hy:Wi w B n' cap' Y) (hl':n'≤1048576){v:Nat}{kk:Int}(hv:v≤18446744073709551615) (hkk:kk≤9223372036854775807){k:Int}:
  Calls Try.prog 34 #[.agg #[.int .i64 k,.slice A n cap,.slice B n' cap',.int .u64 ((v:Nat):Int),.int .i64 kk]] w (Gv w (AnsR3 b (spec3 k kk X Y v))):=by
 by_cases hk1:k=1
 ·subst hk1;exact g_wants3_1 hb hx hl hy hl' hv hkk
 by_cases hk2:k=2
 ·subst hk2;exact g_wants3_2 hb hx hl hy hl' hv hkk
 by_cases hk3:k=3
 ·subst hk3;exact g_wants3_3 hb hx hl hy hl' hv hkk
 by_cases hk4:k=4
 ·subst hk4;exact g_wants3_4 hb hx hl hy hl' hv hkk
 by_cases hk5:k=5
 ·subst hk5;exact g_wants3_5 hb hx hl hy hl' hv hkk
 by_cases hk6:k=6
 ·subst hk6;exact g_wants3_6 hb hx hl hy hl' hv hkk
 by_cases hk7:k=7
 ·subst hk7;exact g_wants3_7 hb hx hl hy hl' hv hkk
 exact g_wants3_k hb hx hl hy hl' hv hkk hk1 hk2 hk3 hk4 hk5 hk6 hk7
set_option maxHeartbeats 4000000 in
theorem g_same3AI {w:World}{t:Ans3}{b1 b2:Nat}{Ax Bx:Option Addr}{nx cx mx dx:Nat}{Ay By:Option Addr}{ny cy my dy:Nat}(jx:nx=(wd t.Q).length) (ox:Own w b1 24 1 Ax nx cx ((wd t.Q).map W64)) (ix:mx=(wd t.R).length) (qx:Own w b1 24 1 Bx mx dx ((wd t.R).map W64)) (jy:ny=(wd t.Q).length) (oy:Own w b2 24 1 Ay ny cy ((wd t.Q).map W64)) (iy:my=(wd t.R).length) (qy:Own w b2 24 1 By my dy ((wd t.R).map W64)) (lx:(wd t.Q).length≤68719476735) (ly:(wd t.R).length≤68719476735):
    Calls Try.prog 37 #[.agg #[.slice Ax nx cx,.slice Bx mx dx,.int .u64 ((t.W:Nat):Int),.int .i64 t.N,.int .i64 t.E],.agg #[.slice Ay ny cy,.slice By my dy,.int .u64 ((t.W:Nat):Int),.int .i64 t.N,.int .i64 t.E]] w (Gv w (Is (.bool true))):=by
 refine sx_enter Try.func37 rfl (n:=42) rfl (bq rfl) (args:= [.agg #[.slice Ax nx cx,.slice Bx mx dx,.int .u64 ((t.W:Nat):Int),.int .i64 t.N,.int .i64 t.E],.agg #[.slice Ay ny cy,.slice By my dy,.int .u64 ((t.W:Nat):Int),.int .i64 t.N,.int .i64 t.E]]) (cw_keep [(0,.agg #[.slice Ax nx cx,.slice Bx mx dx,.int .u64 ((t.W:Nat):Int),.int .i64 t.N,.int .i64 t.E]),(1,.agg #[.slice Ay ny cy,.slice By my dy,.int .u64 ((t.W:Nat):Int),.int .i64 t.N,.int .i64 t.E])] ⟨rfl,rfl,trivial⟩ (sr (bx [.slice Ax nx cx,.slice Bx mx dx,.int .u64 ((t.W:Nat):Int),.int .i64 t.N,.int .i64 t.E] (Ext.refl w) rfl rfl rfl fun g1 v2 hb4 ge5 e3 hw1=>(bxq [.slice Ay ny cy,.slice By my dy,.int .u64 ((t.W:Nat):Int),.int .i64 t.N,.int .i64 t.E] hw1 hb4.lt rfl rfl rfl fun g6 v7 hb9 ge10 q11 e8 hw2=>(mv 1 rfl (ne_ (sr (pf g1 0 rfl (by kernel_rfl) (wl_load rfl rfl (load_cell (fun _=>by kernel_rfl) (hb4.ext e8) rfl) (by decide) (pf g6 0 rfl (by kernel_rfl) (wl_load rfl rfl (load_cell (fun _=>by kernel_rfl) hb9 rfl) (by decide) (cl (vs:= [.slice Ax nx cx,.slice Ay ny cy]) hw2 (g_same3 (ox.ext (e3.trans e8)) (by rw [jx];omega) (oy.ext (e3.trans e8)) (by rw [jy];omega)) rfl (by kernel_rfl) fun xr14 v12 r14 e13 hw3=>?_))))))))))))
 obtain rfl:=r14
 refine mv 1 rfl (ne_ (sr (pf g1 1 rfl (by kernel_rfl) (wl_load rfl rfl (load_cell (fun _=>by kernel_rfl) (hb4.ext (e8.trans e13)) rfl) (by decide) (pf g6 1 rfl (by kernel_rfl) (wl_load rfl rfl (load_cell (fun _=>by kernel_rfl) (hb9.ext e13) rfl) (by decide) (cl (vs:= [.slice Bx mx dx,.slice By my dy]) hw3 (g_same3 (qx.ext (e3.trans (e8.trans e13))) (by rw [ix];omega) (qy.ext (e3.trans (e8.trans e13))) (by rw [iy];omega)) rfl (by kernel_rfl) fun xr17 v15 r17 e16 hw4=>?_)))))))
 obtain rfl:=r17
 refine mv 1 rfl (ne_ (sr (mv 3 rfl (pu (v:= .bool true) rfl (by kernel_rfl) (mv 1 rfl (pf g1 2 rfl (by kernel_rfl) (wl_load rfl rfl (load_cell (fun _=>by kernel_rfl) (hb4.ext (e8.trans (e13.trans e16))) rfl) (by decide) (pf g6 2 rfl (by kernel_rfl) (wl_load rfl rfl (load_cell (fun _=>by kernel_rfl) (hb9.ext (e13.trans e16)) rfl) (by decide) (wl_cmp rfl rfl rfl true (cb_eq_t (a:=t.W) (b:=t.W) rfl rfl (by omega)) (by decide) (pu (v:= .bool true) rfl (by kernel_rfl) (mv 1 rfl (pf g1 3 rfl (by kernel_rfl) ?_)))))))))))))
 refine wl_load rfl rfl (load_cell (fun _=>by kernel_rfl) (hb4.ext (e8.trans (e13.trans e16))) rfl) (by decide) (pf g6 3 rfl (by kernel_rfl) (wl_load rfl rfl (load_cell (fun _=>by kernel_rfl) (hb9.ext (e13.trans e16)) rfl) (by decide) (wl_cmp rfl rfl rfl true (eq_t rfl) (by decide) (pu (v:= .bool true) rfl (by kernel_rfl) (mv 1 rfl (pf g1 4 rfl (by kernel_rfl) (wl_load rfl rfl (load_cell (fun _=>by kernel_rfl) (hb4.ext (e8.trans (e13.trans e16))) rfl) (by decide) (pf g6 4 rfl (by kernel_rfl) (wl_load rfl rfl (load_cell (fun _=>by kernel_rfl) (hb9.ext (e13.trans e16)) rfl) (by decide) (wl_cmp rfl rfl rfl true (eq_t rfl) (by decide) (pu (v:= .bool true) rfl (by kernel_rfl) (mv 1 rfl (wl_nil ?_)))))))))))))
 refine eo_then (cw_ret (eo_ret [.bool true] rfl ⟨rfl,trivial⟩ ?_))
 exact⟨_,rfl,rfl,hw4⟩
theorem g_same3A {w:World}{t:Ans3}{b1 b2:Nat}{u v:Value}(hu:AnsR3 b1 t u w) (hv:AnsR3 b2 t v w):Calls Try.prog 37 #[u,v] w (Gv w (Is (.bool true))):=by
 obtain⟨_,_,rfl,⟨A,n,c,rfl,j,o⟩,⟨B,m,d,rfl,i,q⟩,lx,ly⟩:=hu
 obtain⟨_,_,rfl,⟨A',n',c',rfl,j',o'⟩,⟨B',m',d',rfl,i',q'⟩,_,_⟩:=hv
 exact g_same3AI j o i q j' o' i' q' lx ly
theorem UpdO.refl (A:Option Addr) (w:World):UpdO A w w:=⟨World.grownBy.refl _ _⟩
theorem UpdO.trans {A:Option Addr}{a b c:World}(h:UpdO A a b) (k:UpdO A b c):UpdO A a c:=
 ⟨⟨k.by_.os.trans h.by_.os,k.by_.tape.trans h.by_.tape,k.by_.output.trans h.by_.output,Nat.le_trans h.by_.size k.by_.size,
  fun i hi hne=>(k.by_.block i (Nat.lt_of_lt_of_le hi h.by_.size) hne).trans (h.by_.block i hi hne)⟩⟩
theorem UpdO.then_ext {A:Option Addr}{a b c:World}(h:UpdO A a b) (e:Ext b c):UpdO A a c:=
 ⟨⟨e.below.os.trans h.by_.os,e.below.tape.trans h.by_.tape,e.below.output.trans h.by_.output,Nat.le_trans h.by_.size e.below.size,
  fun i hi hne=>(e.below.block i (Nat.lt_of_lt_of_le hi h.by_.size)).trans (h.by_.block i hi hne)⟩⟩
theorem Own.at1 {w:World}{lb:Nat}{T:TypeId}{A:Option Addr}{n c:Nat}{f:Nat→Value}{xs:List Nat}(h:Own w lb T 1 A n c (xs.map f)){i:Nat}(hi:i<n):
  ∃p,A.map (·.add (i*1))=some p∧w.cell? p=some (f (xs.getD i 0)):=by
 have hl:=h.rv.len
 rw [List.length_map,Nat.mul_one] at hl
 obtain⟨a,rfl,hc⟩:=h.rv.get i (by omega)
 refine⟨a.add i,by rw [Nat.mul_one];rfl,?_⟩
 rw [hc]
 simp [List.getD_eq_getElem?_getD,List.getElem?_map,List.getElem?_eq_getElem (show i<xs.length by omega)]
theorem own_len1 {w:World}{b n c:Nat}{T:TypeId}{A:Option Addr}{f:Nat→Value}{l:List Nat}(h:Own w b T 1 A n c (l.map f)):l.length=n:=by have:=h.rv.len;rwa [List.length_map,Nat.mul_one] at this
theorem Own.take1 {w:World}{lb:Nat}{T:TypeId}{A:Option Addr}{n c k:Nat}{f:Nat→Value}{xs:List Nat}(h:Own w lb T 1 A n c (xs.map f)) (hk:k≤n):Own w lb T 1 A k c ((xs.take k).map f):=by
 have:=h.take hk
 rwa [Nat.mul_one,←List.map_take] at this
theorem own_set {w:World}{lb:Nat}{T:TypeId}{A:Option Addr}{n c:Nat}{f:Nat→Value}{xs:List Nat}(h:Own w lb T 1 A n c (xs.map f)){i u:Nat}(hi:i<n) (h1:(f u).oneCell'=true) (hcl:(f u).cells= #[f u]){P:Program}{T':TypeId}(hT:∀w,(sizeOf T').run P w= .ok 1 w){p:Addr}(hp:A.map (·.add (i*1))=some p):
  ∃w',(storeVar T' p (f u)).run P w= .ok () w'∧Own w' lb T 1 A n c ((xs.set i u).map f)∧UpdO A w w':=by
 rcases h with⟨_,rfl,_,_⟩ | ⟨g,cs,rfl,hb,hk,hn,hm,hl,hv⟩
 ·omega
 ·rw [Option.map_some,Option.some.injEq,Nat.mul_one,add_lit0,Nat.zero_add] at hp
  subst hp
  rw [Nat.mul_one] at hl hv
  obtain⟨w',hr,hb2,hu,_⟩:=run_store1v (P:=P) (v:=f u) hT hcl hk (show i<cs.length by omega) h1 _ rfl
  refine⟨w',hr,Or.inr ⟨g,_,rfl,hb,hb2,hn,hm,by rw [List.length_set,hl,Nat.mul_one],?_⟩,hu.updO⟩
  rw [Nat.mul_one,List.take_set,hv,List.map_set]
section
variable {P:Program}{Q:Exit→Act→World→Prop}{n:Nat}{l:Fr}{w:World}{ops:Array Oper}{rest:List Oper}{d:Nat}{ty:TypeId}{pos:String}{af:Array Edge}{gd:Option (Nat×Bool)}
end
structure UpU (lb:Nat) (w w':World):Prop where
 os:w'.os=w.os
 tape:w'.tape=w.tape
 output:w'.output=w.output
 size:w.heap.size≤w'.heap.size
 low:∀k,k<lb→k<w.heap.size→w'.heap[k]?=w.heap[k]?
 typ:∀(k:Nat) (cs:Array Value) (t:TypeId) (fr:Nat×Nat),w.heap[k]?=some (.cells cs t fr)→t≠24→w'.heap[k]?=some (.cells cs t fr)
section
variable {lb:Nat}{a b c w w':World}
theorem UpU.refl (lb:Nat) (w:World):UpU lb w w:=⟨rfl,rfl,rfl,Nat.le_refl _,fun _ _ _=>rfl,fun _ _ _ _ h _=>h⟩
theorem UpU.trans (h:UpU lb a b) (e:UpU lb b c):UpU lb a c:=
 ⟨e.os.trans h.os,e.tape.trans h.tape,e.output.trans h.output,Nat.le_trans h.size e.size,fun k hk hs=>(e.low k hk (Nat.lt_of_lt_of_le hs h.size)).trans (h.low k hk hs),fun k cs t fr ho h1=>e.typ k cs t fr (h.typ k cs t fr ho h1) h1⟩
theorem UpU.of_ext (lb:Nat) (e:Ext w w'):UpU lb w w':=⟨e.below.os,e.below.tape,e.below.output,e.size,fun k _ hs=>e.below.block k hs,fun _ _ _ _ ho _=>e.heap ho⟩
theorem UpU.then_ext (h:UpU lb a b) (e:Ext b c):UpU lb a c:=h.trans (UpU.of_ext lb e)
theorem UpU.ext (h:UpU lb w w') (e:Ext a w) (hl:a.heap.size≤lb):Ext a w':=
 ⟨⟨h.os.trans e.below.os,h.tape.trans e.below.tape,h.output.trans e.below.output,Nat.le_trans e.size h.size,fun k hk=>(h.low k (Nat.lt_of_lt_of_le hk hl) (Nat.lt_of_lt_of_le hk e.size)).trans (e.below.block k hk)⟩⟩
theorem UpU.bk {g:Nat}{t:TypeId}{vs:List Value}(h:UpU lb w w') (hb:Bk w g t vs) (h1:t≠24):Bk w' g t vs:=h.typ g _ _ _ hb h1
theorem UpU.own {base s n cap:Nat}{t:TypeId}{A:Option Addr}{vs:List Value}(h:UpU lb w w') (ho:Own w base t s A n cap vs) (h1:t≠24):Own w' base t s A n cap vs:=by
 rcases ho with ho | ⟨g,cs,ha,hb,hk,r⟩
 ·exact Or.inl ho
 ·exact Or.inr ⟨g,cs,ha,hb,h.bk hk h1,r⟩
theorem UpU.ofO {A:Option Addr}{s n cap:Nat}{vs:List Value}(ho:Own w lb 24 s A n cap vs) (u:UpdO A w w'):UpU lb w w':=by
 refine⟨u.by_.os,u.by_.tape,u.by_.output,u.size,fun k hk hs=>?_,fun k cs t fr h1 h2=>?_⟩
 ·refine u.by_.block k hs fun e=>?_
  cases A with
  | none=>cases e
  | some p=>
   have e':k=p.block:=Option.some.inj e
   have:=(ho.block p rfl).1
   omega
 ·refine u.heap h1 fun p hp e=>h2 ?_
  rcases ho with⟨h,_⟩ | ⟨g,cs',ha,_,hk,_⟩
  ·rw [h] at hp;cases hp
  ·rw [ha] at hp;cases hp
   simp only at e
   subst e
   unfold Bk at hk
   rw [hk] at h1
   injection h1 with h1
   injection h1 with _ h1
   exact h1.symm
end
theorem run_app2 {P:Program}{t ty e:TypeId}{z:Value}{s bytes:Nat}(ht:P.underlying t=some (.slice e)) (hinfo:(P.info? e).map (fun i=>(i.zero,i.size,i.bytes))=some (some z,s,bytes)) (hzs:z.cells.size=s) (hsz:0<s) (hby:bytes≤64)
  {w:World}{base:Nat}{A:Option Addr}{n cap:Nat}{xs:List Value}(hown:Own w base e s A n cap xs) (hb:base≤w.heap.size){a:Addr}{m c:Nat}{news:List Value}(hl:news.length=m*s) (hnews:∀j u,news[j]?=some u→w.cell? (a.add j)=some u)
  (h1:news.all (·.oneCell')=true) (hm:n+m≤1099511627776):
  ∃A' cap' w',(Builtin.append_ #[t,t] ty #[.slice A n cap,.slice (some a) m c]).run P w= .ok (.slice A' (n+m) cap') w'∧Own w' base e s A' (n+m) cap' (xs++news)∧
   ((A'=A∧cap'=cap∧UpdO A w w')∨(Ext w w'∧∀a',A'=some a'→w.heap.size≤a'.block)):=by
 obtain⟨i,hi,hz,hz1,hz2⟩:=info_parts hinfo
 have h1':∀u∈news,u.oneCell'=true:=by simpa [List.all_eq_true] using h1
 have h63:n+m≤maxLen:=by rw [len_maxLen];omega
 have hbytes:(n+m)*bytes≤140737488355328:=by
  have:(n+m)*bytes≤1099511627776*64:=Nat.mul_le_mul hm hby
  omega
 rcases hown with⟨rfl,rfl,rfl,rfl⟩ | ⟨g,cs,rfl,hg,hk,hn,hcm,hcl,hv⟩
 ·obtain⟨v',w',hr,h2,h3,_⟩:=run_append_own (P:=P) w w.heap.size t ty e i z s bytes ht hi hz hz1 hz2 hzs hsz (.slice none 0 0) 0 [] (World.ownsRow_nil w _ e s) a m c news hl hnews h1' h63 hbytes (Nat.le_refl _)
  obtain⟨A',cap',rfl,ho⟩:=Own.of_row h2
  exact⟨A',cap',w',hr,ho.mono hb,Or.inr ⟨Ext.of_grown h3,fun a' ha=>(ho.block a' ha).1⟩⟩
 ·by_cases hroom:n+m≤cap
  ·have hfit:n*s+news.length≤cs.length:=by rw [hl,hcl,←Nat.add_mul];exact Nat.mul_le_mul_right s hroom
   obtain⟨w',hst,hb2,hu,hs⟩:=store_cells (P:=P) news 0 (n*s) w cs hk (by omega) h1'
   rw [Nat.add_zero] at hb2
   have hfc:=run_firstCells_some (P:=P) w i.size m a m c news (by rw [hz1];exact hl) hnews
   rw [hz1] at hfc
   refine⟨some ⟨g,0,none⟩,cap,w',?_,Or.inr ⟨g,_,rfl,hg,hb2,hroom,hcm,?_,?_⟩,Or.inl ⟨rfl,rfl,hu.updO⟩⟩
   ·simp [Builtin.append_,run_underlying ht,sizeOf,typeInfo,hi,Builtin.lenOf,hroom,hfc,Addr.add_lit,hz1,hst]
   ·unfold overl
    simp only [List.length_append,List.length_take,List.length_drop]
    omega
   ·rw [Nat.add_mul,←hl]
    exact overl_take hv (by omega)
  ·obtain⟨v',w',hr,h2,h3⟩:=run_append_arg_grows (P:=P) w t ty e i z s bytes ht hi hz hz1 hz2 hzs hsz ⟨g,0,none⟩ n cap xs
    (by rw [←hv,List.length_take];have:=Nat.mul_le_mul_right s hn;omega)
    (fun j u hj=>by
     have hjl:=(List.getElem?_eq_some_iff.1 hj).1
     rw [add_lit0,Nat.zero_add,hk.cell (by rw [←hv,List.length_take] at hjl;omega)]
     rw [←hv,List.getElem?_take] at hj
     split at hj
     ·rw [List.getD_eq_getElem?_getD,hj];rfl
     ·cases hj) a m c news hl hnews (by omega) h63 hbytes
   obtain⟨A',cap',rfl,ho⟩:=Own.of_row h2
   exact⟨A',cap',w',hr,ho.mono hb,Or.inr ⟨Ext.of_grown h3,fun a' ha=>(ho.block a' ha).1⟩⟩
structure Lst where
 A:Option Addr
 n:Nat
 c:Nat
def Lst.v (x:Lst):Value:= .slice x.A x.n x.c
def Lst.z:Lst:=⟨none,0,0⟩
def sgm (i j:Nat):Nat:=4323455642275676160+i*1048576+j
def marks (i n:Nat):List Nat:=(List.range n).map (sgm i)
theorem marks_len (i n:Nat):(marks i n).length=n:=by unfold marks;rw [List.length_map,List.length_range]
theorem marks_get {i n j:Nat}(h:j<n):(marks i n).getD j 0=sgm i j:=by unfold marks;simp [List.getD_eq_getElem?_getD,h]
theorem marks_take {i n k:Nat}(h:k≤n):(marks i n).take k=marks i k:=by
 unfold marks;rw [←List.map_take,List.take_range,Nat.min_eq_left h]
theorem marks_succ (i n:Nat):marks i (n+1)=marks i n++ [sgm i n]:=by unfold marks;rw [List.range_succ,List.map_append];rfl
structure Al1 (w:World) (lb:Nat) (ls:List Lst) (i j:Nat):Prop where
 dis:∀a b,a<ls.length→b<ls.length→a≠b→∀p q,(ls.getD a Lst.z).A=some p→(ls.getD b Lst.z).A=some q→p.block≠q.block
 own:∀a,a<ls.length→∃xs:List Nat,Own w lb 24 1 (ls.getD a Lst.z).A (ls.getD a Lst.z).n (ls.getD a Lst.z).c (xs.map W64)∧(a<i→xs=marks a (ls.getD a Lst.z).n)∧(a=i→xs.take j=(marks a (ls.getD a Lst.z).n).take j)
section
variable {w w':World}{lb i j:Nat}{ls:List Lst}
theorem Al1.ext (h:Al1 w lb ls i j) (e:Ext w w'):Al1 w' lb ls i j:=⟨h.dis,fun a ha=>by
 obtain⟨xs,h1,h2⟩:=h.own a ha
 exact⟨xs,h1.ext e,h2⟩⟩
theorem Al1.next (h:Al1 w lb ls i j) (hj:(ls.getD i Lst.z).n≤j):Al1 w lb ls (i+1) 0:=⟨h.dis,fun a ha=>by
 obtain⟨xs,h1,h2,h3⟩:=h.own a ha
 refine⟨xs,h1,fun hlt=>?_,fun _=>rfl⟩
 by_cases e:a=i
 ·subst e
  have h4:=h3 rfl
  have hl:=own_len1 h1
  rwa [List.take_of_length_le (by omega),List.take_of_length_le (by rw [marks_len];exact hj)] at h4
 ·exact h2 (by omega)⟩
theorem Al1.addr (h:Al1 w lb ls i j) (hi:i<ls.length){k:Nat}(hk:k<(ls.getD i Lst.z).n):∃p,(ls.getD i Lst.z).A.map (·.add (k*1))=some p:=by
 obtain⟨xs,h1,_⟩:=h.own i hi
 obtain⟨p,hp,_⟩:=h1.at1 hk
 exact⟨p,hp⟩
theorem Al1.set {P:Program}(h:Al1 w lb ls i j) (hi:i<ls.length) (hj:j<(ls.getD i Lst.z).n){T':TypeId}(hT:∀w,(sizeOf T').run P w= .ok 1 w){p:Addr}(hp:(ls.getD i Lst.z).A.map (·.add (j*1))=some p):
  ∃w',(storeVar T' p (W64 (sgm i j))).run P w= .ok () w'∧Al1 w' lb ls i (j+1)∧UpU lb w w':=by
 obtain⟨xs,h1,h2,h3⟩:=h.own i hi
 obtain⟨w',hr,h4,h5⟩:=own_set (P:=P) (T':=T') (f:=W64) (u:=sgm i j) h1 hj rfl rfl hT hp
 refine⟨w',hr,⟨h.dis,fun a ha=>?_⟩,UpU.ofO h1 h5⟩
 by_cases e:a=i
 ·subst e
  refine⟨_,h4,fun h=>absurd h (Nat.lt_irrefl _),fun _=>?_⟩
  have h6:=h3 rfl
  have hl:=own_len1 h1
  rw [List.take_add_one,List.take_add_one,List.take_set_of_le (Nat.le_refl _),h6]
  congr 1
  rw [List.getElem?_set_self (by omega)]
  have:=marks_get (i:=a) hj
  rw [List.getD_eq_getElem?_getD,List.getElem?_eq_getElem (by rw [marks_len];exact hj),Option.getD_some] at this
  rw [List.getElem?_eq_getElem (by rw [marks_len];exact hj),this]
 ·obtain⟨ys,g1,g2,g3⟩:=h.own a ha
  exact⟨ys,g1.updO h5 (fun p q hp hq=>h.dis i a hi ha (fun e'=>e e'.symm) p q hp hq),g2,fun e'=>absurd e' e⟩
end
structure Gr (w:World) (lb:Nat) (x g:Lst) (i:Nat):Prop where
 ox:Own w lb 24 1 x.A x.n x.c ((marks i x.n).map W64)
 og:Own w lb 24 1 g.A g.n g.c ((marks i g.n).map W64)
 le:x.n≤g.n
 rel:(g.A=x.A∧g.c=x.c)∨(∀p q,x.A=some p→g.A=some q→p.block≠q.block)
def inB (x g:Lst) (k:Nat):Prop:=∃p,(x.A=some p∨g.A=some p)∧p.block=k
structure Al2 (w:World) (lb:Nat) (ls gs:List Lst):Prop where
 len:gs.length=ls.length
 dis:∀a b,a<ls.length→b<ls.length→a≠b→∀k,inB (ls.getD a Lst.z) (gs.getD a Lst.z) k→¬inB (ls.getD b Lst.z) (gs.getD b Lst.z) k
 gr:∀a,a<ls.length→Gr w lb (ls.getD a Lst.z) (gs.getD a Lst.z) a
section
variable {w w':World}{lb i:Nat}{ls gs:List Lst}
theorem Al2.start (h:Al1 w lb ls ls.length 0):Al2 w lb ls ls:=by
 refine⟨rfl,fun a b ha hb hne k h1 h2=>?_,fun a ha=>?_⟩
 ·obtain⟨p,hp,rfl⟩:=h1
  obtain⟨q,hq,hk⟩:=h2
  exact h.dis a b ha hb hne p q (by rcases hp with hp | hp <;> exact hp) (by rcases hq with hq | hq <;> exact hq) hk.symm
 ·obtain⟨xs,h1,h2,_⟩:=h.own a ha
  rw [h2 ha] at h1
  exact⟨h1,h1,Nat.le_refl _,Or.inl ⟨rfl,rfl⟩⟩
theorem Gr.ext {x g:Lst}(h:Gr w lb x g i) (e:Ext w w'):Gr w' lb x g i:=⟨h.ox.ext e,h.og.ext e,h.le,h.rel⟩
theorem Al2.ext (h:Al2 w lb ls gs) (e:Ext w w'):Al2 w' lb ls gs:=⟨h.len,h.dis,fun a ha=>(h.gr a ha).ext e⟩
theorem getD_set_self {α:Type}{l:List α}{i:Nat}{x d:α}(h:i<l.length):(l.set i x).getD i d=x:=by simp [List.getD_eq_getElem?_getD,h]
theorem getD_set_other {α:Type}{l:List α}{i j:Nat}{x d:α}(h:j≠i):(l.set i x).getD j d=l.getD j d:=by
 rw [List.getD_eq_getElem?_getD,List.getElem?_set_ne (fun e=>h e.symm),←List.getD_eq_getElem?_getD]
theorem Al2.app (h:Al2 w lb ls gs) (hi:i<ls.length){A':Option Addr}{c':Nat}(ho:Own w' lb 24 1 A' ((gs.getD i Lst.z).n+1) c' ((marks i ((gs.getD i Lst.z).n+1)).map W64))
  (hc:(A'=(gs.getD i Lst.z).A∧c'=(gs.getD i Lst.z).c∧UpdO (gs.getD i Lst.z).A w w')∨(Ext w w'∧∀a',A'=some a'→w.heap.size≤a'.block)):Al2 w' lb ls (gs.set i ⟨A',(gs.getD i Lst.z).n+1,c'⟩):=by
 have hig:i<gs.length:=by rw [h.len];exact hi
 have hgi:=h.gr i hi
 rcases hc with⟨rfl,rfl,hu⟩ | ⟨he,hnew⟩
 ·refine⟨by rw [List.length_set];exact h.len,fun a b ha hb hne k h1 h2=>?_,fun a ha=>?_⟩
  ·refine h.dis a b ha hb hne k ?_ ?_
   ·by_cases e:a=i
    ·subst e;rwa [getD_set_self hig] at h1
    ·rwa [getD_set_other e] at h1
   ·by_cases e:b=i
    ·subst e;rwa [getD_set_self hig] at h2
    ·rwa [getD_set_other e] at h2
  ·by_cases e:a=i
   ·subst e
    rw [getD_set_self hig]
    refine⟨?_,ho,Nat.le_succ_of_le hgi.le,hgi.rel⟩
    rcases hgi.rel with⟨e1,e2⟩ | hd
    ·have h4:=ho.take1 (k:=(ls.getD a Lst.z).n) (Nat.le_succ_of_le hgi.le)
     rw [marks_take (Nat.le_succ_of_le hgi.le)] at h4
     rw [←e1,←e2];exact h4
    ·exact hgi.ox.updO hu (fun p q hp hq e=>hd q p hq hp e.symm)
   ·rw [getD_set_other e]
    have hga:=h.gr a ha
    refine⟨hga.ox.updO hu (fun p q hp hq e'=>?_),hga.og.updO hu (fun p q hp hq e'=>?_),hga.le,hga.rel⟩
    ·exact h.dis i a hi ha (fun e''=>e e''.symm) p.block ⟨p,Or.inr hp,rfl⟩ ⟨q,Or.inl hq,e'.symm⟩
    ·exact h.dis i a hi ha (fun e''=>e e''.symm) p.block ⟨p,Or.inr hp,rfl⟩ ⟨q,Or.inr hq,e'.symm⟩
 ·have old:∀a,a<ls.length→∀k,inB (ls.getD a Lst.z) (gs.getD a Lst.z) k→k<w.heap.size:=fun a ha k hk=>by
   obtain⟨p,hp,rfl⟩:=hk
   rcases hp with hp | hp
   ·exact ((h.gr a ha).ox.block p hp).2
   ·exact ((h.gr a ha).og.block p hp).2
  have part:∀a,a<ls.length→∀k,inB (ls.getD a Lst.z) ((gs.set i ⟨A',(gs.getD i Lst.z).n+1,c'⟩).getD a Lst.z) k→inB (ls.getD a Lst.z) (gs.getD a Lst.z) k∨(a=i∧w.heap.size≤k):=fun a ha k hk=>by
   by_cases e:a=i
   ·subst e
    rw [getD_set_self hig] at hk
    obtain⟨p,hp,rfl⟩:=hk
    rcases hp with hp | hp
    ·exact Or.inl ⟨p,Or.inl hp,rfl⟩
    ·exact Or.inr ⟨rfl,hnew p hp⟩
   ·rw [getD_set_other e] at hk;exact Or.inl hk
  refine⟨by rw [List.length_set];exact h.len,fun a b ha hb hne k h1 h2=>?_,fun a ha=>?_⟩
  ·rcases part a ha k h1 with h3 | ⟨e3,h3⟩
   ·rcases part b hb k h2 with h4 | ⟨e4,h4⟩
    ·exact h.dis a b ha hb hne k h3 h4
    ·have:=old a ha k h3;omega
   ·rcases part b hb k h2 with h4 | ⟨e4,h4⟩
    ·have:=old b hb k h4;omega
    ·exact hne (e3.trans e4.symm)
  ·by_cases e:a=i
   ·subst e
    rw [getD_set_self hig]
    refine⟨hgi.ox.ext he,ho,Nat.le_succ_of_le hgi.le,Or.inr fun p q hp hq e=>?_⟩
    have:=(hgi.ox.block p hp).2
    have:=hnew q hq
    omega
   ·rw [getD_set_other e]
    exact (h.gr a ha).ext he
end
section
variable {Q:Exit→Act→World→Prop}{N:Nat}{l:Fr}{w:World}{ops:Array Oper}{rest:List Oper}{d:Nat}{ty:TypeId}{pos:String}{af:Array Edge}{gd:Option (Nat×Bool)}
theorem wl_mark {x y:Operand}{lb i j:Nat}{ls:List Lst}{p:Addr}(hw:guardB ops l gd=some true) (hx:evo l x=some (.pointer (some p))) (hy:evo l y=some (W64 (sgm i j))) (h:Al1 w lb ls i j) (hi:i<ls.length) (hj:j<(ls.getD i Lst.z).n)
  (hp:(ls.getD i Lst.z).A.map (·.add (j*1))=some p) (k:∀w',Al1 w' lb ls i (j+1)→UpU lb w w'→wl Try.prog ops Q N rest l w'):wl Try.prog ops Q N (⟨none,.store 24 x y,ty,pos,af,gd⟩::rest) l w:=by
 obtain⟨w',hr,h2,h3⟩:=h.set (P:=Try.prog) (T':=24) hi hj sz_u64 hp
 exact wl_store hw hx hy hr (k w' h2 h3)
theorem wl_grow {x y:Operand}{lb i g c:Nat}{ls gs:List Lst}(hw:guardB ops l gd=some true) (hx:evo l x=some (.slice (gs.getD i Lst.z).A (gs.getD i Lst.z).n (gs.getD i Lst.z).c)) (hy:evo l y=some (.slice (some ⟨g,0,none⟩) 1 c))
  (h:Al2 w lb ls gs) (hlb:lb≤w.heap.size) (hi:i<ls.length) (hb:Bk w g 24 [W64 (sgm i (gs.getD i Lst.z).n)]) (hm:(gs.getD i Lst.z).n+1≤1099511627776) (hd:d<N)
  (k:∀A' c' w',Al2 w' lb ls (gs.set i ⟨A',(gs.getD i Lst.z).n+1,c'⟩)→UpU lb w w'→wl Try.prog ops Q N rest ((d,.slice A' ((gs.getD i Lst.z).n+1) c')::l) w'):
  wl Try.prog ops Q N (⟨some d,.call {callee:= .builtin .append,args:= #[x,y],argTypes:= #[22,22]},ty,pos,af,gd⟩::rest) l w:=by
 have hg:=h.gr i hi
 obtain⟨A',cap',w',hr,h2,h3⟩:=run_app2 (P:=Try.prog) (ty:=ty) un_u64 info64 rfl (by decide) (by decide) hg.og hlb (m:=1) (c:=c) (news:= [W64 (sgm i (gs.getD i Lst.z).n)]) rfl (one_news3 _ hb) rfl hm
 have h4:Own w' lb 24 1 A' ((gs.getD i Lst.z).n+1) cap' ((marks i ((gs.getD i Lst.z).n+1)).map W64):=by rw [marks_succ,List.map_append];exact h2
 have h5:=h.app hi h4 h3
 have h6:UpU lb w w':=by
  rcases h3 with⟨_,_,hu⟩ | ⟨he,_⟩
  ·exact UpU.ofO hg.og hu
  ·exact UpU.of_ext lb he
 refine wl_val hw hd (fun a' ha=>?_) (k A' cap' w' h5 h6)
 unfold execOp
 simp only [resolve,invoke,builtin,Sem.run_bind,Sem.run_pure,Result.andThen_ok,List.map_toArray,List.map_cons,List.map_nil,ha.ev hx,ha.ev hy]
 rw [hr]
 rfl
end
theorem Own.atL {w:World}{lb:Nat}{T:TypeId}{A:Option Addr}{n c:Nat}{ls:List Lst}(h:Own w lb T 1 A n c (ls.map Lst.v)){i:Nat}(hi:i<n):
  ∃p,A.map (·.add (i*1))=some p∧w.cell? p=some (.slice (ls.getD i Lst.z).A (ls.getD i Lst.z).n (ls.getD i Lst.z).c):=by
 have hl:=h.rv.len
 rw [List.length_map,Nat.mul_one] at hl
 obtain⟨a,rfl,hc⟩:=h.rv.get i (by omega)
 refine⟨a.add i,by rw [Nat.mul_one];rfl,?_⟩
 rw [hc]
 simp [List.getD_eq_getElem?_getD,List.getElem?_map,List.getElem?_eq_getElem (show i<ls.length by omega),Lst.v]
section
variable {w w':World}{lb i g:Nat}{ls gs:List Lst}{T:TypeId}{us:List Value}
theorem Gr.updT {x y:Lst}(h:Gr w lb x y i) (hb:Bk w g T us) (hT:24≠T) (u:Upd g w w'):Gr w' lb x y i:=⟨h.ox.updT hb hT u,h.og.updT hb hT u,h.le,h.rel⟩
theorem Al2.updT (h:Al2 w lb ls gs) (hb:Bk w g T us) (hT:24≠T) (u:Upd g w w'):Al2 w' lb ls gs:=⟨h.len,h.dis,fun a ha=>(h.gr a ha).updT hb hT u⟩
theorem UpU.upd_new {a b c:World}(h:UpU lb a b) (u:Upd g b c) (hg:a.heap.size≤g) (hlb:lb≤a.heap.size):UpU lb a c:=
 ⟨u.by_.os.trans h.os,u.by_.tape.trans h.tape,u.by_.output.trans h.output,Nat.le_trans h.size u.size,fun k hk hs=>(u.by_.block k (Nat.lt_of_lt_of_le hs h.size) (fun e=>by injection e with e;omega)).trans (h.low k hk hs),
  fun k cs t fr ho h1=>by
   have hlt:k<a.heap.size:=(Array.getElem?_eq_some_iff.1 ho).1
   exact u.heap (h.typ k cs t fr ho h1) (by omega)⟩
end
def Al0 (w:World) (lb:Nat) (ls:List Lst):Prop:=Al1 w lb ls 0 0
theorem Al2.rd1 {w:World}{lb:Nat}{ls gs:List Lst}(h:Al2 w lb ls gs){i:Nat}(hi:i<ls.length) (hn:ls.length≤1048576) (hl:(ls.getD i Lst.z).n≤1099511627776):Rd w (ls.getD i Lst.z).A (ls.getD i Lst.z).n (ls.getD i Lst.z).c (marks i (ls.getD i Lst.z).n):=(h.gr i hi).ox.rd (fun x hx=>by
 unfold marks at hx
 obtain⟨j,hj,rfl⟩:=List.mem_map.1 hx
 have:=List.mem_range.1 hj
 unfold sgm;rw [WB_def];omega)
theorem Al2.rd2 {w:World}{lb:Nat}{ls gs:List Lst}(h:Al2 w lb ls gs){i:Nat}(hi:i<ls.length) (hn:ls.length≤1048576) (hl:(gs.getD i Lst.z).n≤1099511627776):Rd w (gs.getD i Lst.z).A (gs.getD i Lst.z).n (gs.getD i Lst.z).c (marks i (gs.getD i Lst.z).n):=(h.gr i hi).og.rd (fun x hx=>by
 unfold marks at hx
 obtain⟨j,hj,rfl⟩:=List.mem_map.1 hx
 have:=List.mem_range.1 hj
 unfold sgm;rw [WB_def];omega)
section
variable (P:Program) (n:Nat) (ol:List Oper) (vs:List Value) (ws:List World) (w:World) (dss:List (List Nat)) (l:Fr) (st:List Nat)
end
structure DetOkV (n:Nat) (ol:List Oper) (st:List Nat) (l:Fr) (dss rl:List (List Nat)) (ps:List (Nat×Nat)):Prop where
 guard:∀(i:Nat) (o:Oper),ol[i]?=some o→o.guard=none
 back:∀(i:Nat) (o:Oper),ol[i]?=some o→∀e∈o.after,Region.binds .any e=true→e.on<i
 reach:∀(i:Nat) (o:Oper),ol[i]?=some o→∀j∈rch rl i,j<i∧∃e∈o.after,Region.binds .any e=true∧(e.on=j∨j∈rch rl e.on)
 deps:∀(i:Nat) (o:Oper),ol[i]?=some o→∀j∈rch dss i,j∈rch rl i
 val:∀(i:Nat) (o:Oper),ol[i]?=some o→∀d,o.dst=some d→d<n∧(∀p∈l,p.1≠d)∧∀(j:Nat) (o':Oper),ol[j]?=some o'→j≠i→o'.dst≠some d
 sto:∀(i:Nat) (o:Oper),ol[i]?=some o→o.dst=none→i∈st
 pair:∀(i:Nat) (o:Oper),ol[i]?=some o→∀t,t≤st.length→cnt st (rch rl i)≤t→(t=0∨i ∉ rch rl (st.getD (t-1) 0))→(i∈st→t=cnt st (rch rl i))→(i,t)∈ps
 inN:∀t,t<st.length→st.getD t 0<ol.length
 ord:∀t,t<st.length→∀u,u<t→st.getD u 0∈rch rl (st.getD t 0)
section
variable {P:Program}{Q:Exit→Act→World→Prop}{n:Nat}{ol:List Oper}{vs:List Value}{ws:List World}{w:World}{dss rl:List (List Nat)}{l:Fr}{st:List Nat}{ps:List (Nat×Nat)}
end
theorem aggBook:AggT Try.prog 77 3:=⟨fun _=>by kernel_rfl,fun _=>by kernel_rfl⟩
theorem info_zl2:(Try.prog.info? 117).map (fun i=>(i.zero,i.size,i.bytes))=some (some (.slice none 0 0),1,24):=by kernel_rfl
theorem info_nl2:(Try.prog.info? 29).map (fun i=>(i.zero,i.size,i.bytes))=some (some (.slice none 0 0),1,24):=by kernel_rfl
set_option maxHeartbeats 4000000 in
theorem g_sign1 {w:World}{i j:Nat}(hi:i≤1048576) (hj:j≤1099511627776):
    Calls Try.prog 101 #[.int .i64 ((i:Nat):Int),.int .i64 ((j:Nat):Int)] w (Gv w (Is (.int .u64 ((sgm i j:Nat):Int)))):=by
 refine sx_enter Try.func101 rfl (n:=12) rfl (bq rfl) (args:= [.int .i64 ((i:Nat):Int),.int .i64 ((j:Nat):Int)]) (cw_keep [(0,.int .i64 ((i:Nat):Int)),(1,.int .i64 ((j:Nat):Int))] ⟨rfl,rfl,trivial⟩ (sr (mv 1 rfl (ne_ (sr (mv 1 rfl (wl_pureE rfl rfl (v:= .int .u64 (IntKind.u64.wrap ((i:Nat):Int))) (v':= .int .u64 ((i:Nat):Int)) (by decide) (by kernel_rfl) (cv_u64 (by first | omega | exact hle64)) (wl_ar rfl rfl rfl ((i*1048576:Nat):Int) (au_mul (a:=i) (b:=1048576) rfl rfl (by omega)) (by decide) (wl_ar rfl rfl rfl ((4323455642275676160+(i*1048576):Nat):Int) (au_add (a:=4323455642275676160) (b:=i*1048576) rfl rfl (by omega)) (by decide) (mv 1 rfl (wl_pureE rfl rfl (v:= .int .u64 (IntKind.u64.wrap ((j:Nat):Int))) (v':= .int .u64 ((j:Nat):Int)) (by decide) (by kernel_rfl) (cv_u64 (by first | omega | exact hle64)) (wl_ar rfl rfl rfl (((4323455642275676160+(i*1048576))+j:Nat):Int) (au_add (a:=4323455642275676160+(i*1048576)) (b:=j) rfl rfl (by omega)) (by decide) (mv 1 rfl ?_)))))))))))))
 refine ne_ (cw_ret (eo_ret [.int .u64 (((4323455642275676160+(i*1048576))+j:Nat):Int)] rfl ⟨rfl,trivial⟩ ?_))
 exact⟨_,rfl,(show Value.int .u64 _= .int .u64 ((sgm i j:Nat):Int) by unfold sgm;rfl),(Ext.refl w)⟩
set_option maxHeartbeats 4000000 in
theorem g_holds {w:World}{i:Nat}{XA GA:Option Addr}{xn xc gn gc:Nat}(hi:i≤1048576) (hx:Rd w XA xn xc (marks i xn)) (hg:Rd w GA gn gc (marks i gn)) (hn:gn=xn+80) (hl:xn≤1099511627000):
    Calls Try.prog 102 #[.int .i64 ((i:Nat):Int),.slice XA xn xc,.slice GA gn gc] w (Gv w (Is (.bool true))):=by
 refine sx_enter Try.func102 rfl (n:=43) rfl (bq rfl) (args:= [.int .i64 ((i:Nat):Int),.slice XA xn xc,.slice GA gn gc]) (cw_keep [(0,.int .i64 ((i:Nat):Int)),(1,.slice XA xn xc),(2,.slice GA gn gc)] ⟨rfl,rfl,rfl,trivial⟩ (sr (mv 1 rfl (ne_ (cw_seq (sr (mv 1 rfl (pu (v:= .int .i64 ((gn:Nat):Int)) rfl (by kernel_rfl) (mv 1 rfl (pu (v:= .int .i64 ((xn:Nat):Int)) rfl (by kernel_rfl) (wl_ar rfl rfl rfl ((xn+80:Nat):Int) (ai_add (a:=xn) (b:=80) rfl rfl (by omega)) (by decide) (wl_cmp rfl rfl rfl false (cb_ne_f (a:=gn) (b:=xn+80) rfl rfl (by omega)) (by decide) (wl_nil ?_)))))))))))))
 refine eo_then (cw_false rfl (cw_skip (eo_then (cw_seq (sr (mv 1 rfl (ne_ (cw_block ?_))))))))
 refine cw_loop (T:=World×Nat)
  (fun⟨wr,j⟩=> [(0,.int .i64 ((i:Nat):Int)),(1,.slice XA xn xc),(2,.slice GA gn gc),(7,.int .i64 ((j:Nat):Int))])
  (fun⟨wr,j⟩=>wr)
  (fun⟨wr,j⟩=>(Ext w wr)∧(j≤xn)∧(Rd wr XA xn xc (marks i xn))∧(Rd wr GA gn gc (marks i gn)))
  (fun⟨wr,j⟩=>xn-j)
  (⟨w,0⟩:World×Nat) ⟨(Ext.refl w),(Nat.zero_le _),hx,hg⟩ rfl ⟨rfl,rfl,rfl,rfl,trivial⟩ ?_
 rintro⟨wr,j⟩ ⟨hw1,hj,rl1,rl2⟩
 refine cw_re [(0,.int .i64 ((i:Nat):Int)),(1,.slice XA xn xc),(2,.slice GA gn gc),(7,.int .i64 ((j:Nat):Int))] wr rfl ⟨rfl,rfl,rfl,rfl,trivial⟩ (cw_seq (cw_seq ?_))
 by_cases hlt:j<xn
 · 
  refine cw_region (mv 2 rfl (pu (v:= .int .i64 ((xn:Nat):Int)) rfl (by kernel_rfl) (wl_cmp rfl rfl rfl true (cb_lt_t (a:=j) (b:=xn) rfl rfl (by omega)) (by decide) (ne_ (cw_true rfl (cw_skip (eo_then (cw_seq (cw_block (cw_seq ?_))))))))))
  have hmk:=marks_get (i:=i) hlt
  obtain⟨p1,hp1,hc1,hv1⟩:=(rl1).at (i:=j) (by omega)
  refine cw_draw mix 8 [] [Is (.slice XA xn xc),Is (.int .i64 ((j:Nat):Int)),Is (.pointer (some p1)),Is (.int .u64 (((marks i xn).getD j 0:Nat):Int)),Is (.int .i64 ((i:Nat):Int)),Is (.int .i64 ((j:Nat):Int)),Is (.int .u64 ((sgm i j:Nat):Int)),Is (.bool false)] [[],[],[0,1],[2],[],[],[4,5],[3,6]] [[],[],[0,1],[0,1,2],[],[],[4,5],[0,1,2,3,4,5,6]] rfl
   (obs_cons rfl rfl (hob rfl rfl ?_) (obs_cons rfl rfl (hob rfl rfl ?_) (obs_cons rfl rfl (hob rfl rfl ?_) (obs_cons rfl rfl (hob rfl rfl ?_) (obs_cons rfl rfl (hob rfl rfl ?_) (obs_cons rfl rfl (hob rfl rfl ?_) (obs_cons rfl rfl (hob rfl rfl ?_) (obs_cons rfl rfl (hob rfl rfl ?_) obs_nil)))))))) ?_
  · 
   exact fun _ _=>deps_nil (mv 1 rfl (pi_done rfl (Ext.refl _) rfl))
  · 
   exact fun _ _=>deps_nil (mv 1 rfl (pi_done rfl (Ext.refl _) rfl))
  · 
   exact fun _ _=>dk rfl rfl (dk rfl rfl (deps_nil (wl_idx rfl rfl rfl un_u64 sz_u64 j rfl (by omega) p1 hp1 (by decide) (pi_done rfl (Ext.refl _) rfl))))
  · 
   exact fun _ e19=>dk rfl rfl (deps_nil (wl_load rfl rfl (load_cell1 ag_u64 (e19.cell hc1)) (by decide) (pi_done rfl (Ext.refl _) rfl)))
  · 
   exact fun _ _=>deps_nil (mv 1 rfl (pi_done rfl (Ext.refl _) rfl))
  · 
   exact fun _ _=>deps_nil (mv 1 rfl (pi_done rfl (Ext.refl _) rfl))
  · 
   intro v29 e30
   have hw2:=hw1.trans e30
   refine dk rfl rfl (dk rfl rfl (deps_nil (cl (vs:= [.int .i64 ((i:Nat):Int),.int .i64 ((j:Nat):Int)]) hw2 (g_sign1 (by omega) (by omega)) rfl (by kernel_rfl) fun xr43 v41 r43 e42 hw3=>?_)))
   obtain rfl:=r43
   exact pi_done rfl e42 rfl
  · 
   exact fun _ _=>dk rfl rfl (dk rfl rfl (deps_nil (wl_cmp rfl rfl rfl false (cb_ne_f (a:=(marks i xn).getD j 0) (b:=sgm i j) rfl rfl (by omega)) (by decide) (pi_done rfl (Ext.refl _) rfl))))
  · 
   intro v56 e57
   have hw2:=hw1.trans e57
   refine dk rfl rfl (dk rfl rfl (dk rfl rfl (dk rfl rfl (dk rfl rfl (dk rfl rfl (dk rfl rfl (dk rfl rfl (deps_nil (wl_nil (eo_np (eo_then (cw_false rfl (cw_skip ?_)))))))))))))
   refine eo_block_normal (eo_then (cw_region (mv 1 rfl (wl_ar rfl rfl rfl ((j+1:Nat):Int) (ai_add (a:=j) (b:=1) rfl rfl (by omega)) (by decide) (mv 1 rfl (wl_nil (eo_round (⟨v56,j+1⟩:World×Nat) ⟨hw2,(by omega),(rl1.ext e57),(rl2.ext e57)⟩ (show xn-(j+1)<xn-j by omega) rfl ⟨rfl,rfl,rfl,rfl,trivial⟩)))))))
 · 
  refine cw_region (mv 2 rfl (pu (v:= .int .i64 ((xn:Nat):Int)) rfl (by kernel_rfl) (wl_cmp rfl rfl rfl false (cb_lt_f (a:=j) (b:=xn) rfl rfl (by omega)) (by decide) (ne_ (cw_false rfl (cw_exit (eo_thenX (eo_loopX (eo_block_here (eo_then (cw_seq (sr (mv 1 rfl ?_)))))))))))))
  refine ne_ (cw_block ?_)
  refine cw_loop (T:=World×Nat)
   (fun⟨wr,j⟩=> [(0,.int .i64 ((i:Nat):Int)),(1,.slice XA xn xc),(2,.slice GA gn gc),(8,.int .i64 ((j:Nat):Int))])
   (fun⟨wr,j⟩=>wr)
   (fun⟨wr,j⟩=>(Ext w wr)∧(j≤gn)∧(Rd wr XA xn xc (marks i xn))∧(Rd wr GA gn gc (marks i gn)))
   (fun⟨wr,j⟩=>gn-j)
   (⟨wr,0⟩:World×Nat) ⟨hw1,(Nat.zero_le _),rl1,rl2⟩ rfl ⟨rfl,rfl,rfl,rfl,trivial⟩ ?_
  rintro⟨wr,j⟩ ⟨hw1,hj,rl1,rl2⟩
  refine cw_re [(0,.int .i64 ((i:Nat):Int)),(1,.slice XA xn xc),(2,.slice GA gn gc),(8,.int .i64 ((j:Nat):Int))] wr rfl ⟨rfl,rfl,rfl,rfl,trivial⟩ (cw_seq (cw_seq ?_))
  by_cases hlt:j<gn
  · 
   refine cw_region (mv 2 rfl (pu (v:= .int .i64 ((gn:Nat):Int)) rfl (by kernel_rfl) (wl_cmp rfl rfl rfl true (cb_lt_t (a:=j) (b:=gn) rfl rfl (by omega)) (by decide) (ne_ (cw_true rfl (cw_skip (eo_then (cw_seq (cw_block (cw_seq ?_))))))))))
   have hmk:=marks_get (i:=i) hlt
   obtain⟨p98,hp98,hc98,hv98⟩:=(rl2).at (i:=j) (by omega)
   refine cw_draw mix 8 [] [Is (.slice GA gn gc),Is (.int .i64 ((j:Nat):Int)),Is (.pointer (some p98)),Is (.int .u64 (((marks i gn).getD j 0:Nat):Int)),Is (.int .i64 ((i:Nat):Int)),Is (.int .i64 ((j:Nat):Int)),Is (.int .u64 ((sgm i j:Nat):Int)),Is (.bool false)] [[],[],[0,1],[2],[],[],[4,5],[3,6]] [[],[],[0,1],[0,1,2],[],[],[4,5],[0,1,2,3,4,5,6]] rfl
    (obs_cons rfl rfl (hob rfl rfl ?_) (obs_cons rfl rfl (hob rfl rfl ?_) (obs_cons rfl rfl (hob rfl rfl ?_) (obs_cons rfl rfl (hob rfl rfl ?_) (obs_cons rfl rfl (hob rfl rfl ?_) (obs_cons rfl rfl (hob rfl rfl ?_) (obs_cons rfl rfl (hob rfl rfl ?_) (obs_cons rfl rfl (hob rfl rfl ?_) obs_nil)))))))) ?_
   · 
    exact fun _ _=>deps_nil (mv 1 rfl (pi_done rfl (Ext.refl _) rfl))
   · 
    exact fun _ _=>deps_nil (mv 1 rfl (pi_done rfl (Ext.refl _) rfl))
   · 
    exact fun _ _=>dk rfl rfl (dk rfl rfl (deps_nil (wl_idx rfl rfl rfl un_u64 sz_u64 j rfl (by omega) p98 hp98 (by decide) (pi_done rfl (Ext.refl _) rfl))))
   · 
    exact fun _ e116=>dk rfl rfl (deps_nil (wl_load rfl rfl (load_cell1 ag_u64 (e116.cell hc98)) (by decide) (pi_done rfl (Ext.refl _) rfl)))
   · 
    exact fun _ _=>deps_nil (mv 1 rfl (pi_done rfl (Ext.refl _) rfl))
   · 
    exact fun _ _=>deps_nil (mv 1 rfl (pi_done rfl (Ext.refl _) rfl))
   · 
    intro v126 e127
    have hw2:=hw1.trans e127
    refine dk rfl rfl (dk rfl rfl (deps_nil (cl (vs:= [.int .i64 ((i:Nat):Int),.int .i64 ((j:Nat):Int)]) hw2 (g_sign1 (by omega) (by omega)) rfl (by kernel_rfl) fun xr140 v138 r140 e139 hw3=>?_)))
    obtain rfl:=r140
    exact pi_done rfl e139 rfl
   · 
    exact fun _ _=>dk rfl rfl (dk rfl rfl (deps_nil (wl_cmp rfl rfl rfl false (cb_ne_f (a:=(marks i gn).getD j 0) (b:=sgm i j) rfl rfl (by omega)) (by decide) (pi_done rfl (Ext.refl _) rfl))))
   · 
    intro v153 e154
    have hw2:=hw1.trans e154
    refine dk rfl rfl (dk rfl rfl (dk rfl rfl (dk rfl rfl (dk rfl rfl (dk rfl rfl (dk rfl rfl (dk rfl rfl (deps_nil (wl_nil (eo_np (eo_then (cw_false rfl (cw_skip ?_)))))))))))))
    refine eo_block_normal (eo_then (cw_region (mv 1 rfl (wl_ar rfl rfl rfl ((j+1:Nat):Int) (ai_add (a:=j) (b:=1) rfl rfl (by omega)) (by decide) (mv 1 rfl (wl_nil (eo_round (⟨v153,j+1⟩:World×Nat) ⟨hw2,(by omega),(rl1.ext e154),(rl2.ext e154)⟩ (show gn-(j+1)<gn-j by omega) rfl ⟨rfl,rfl,rfl,rfl,trivial⟩)))))))
  · 
   refine cw_region (mv 2 rfl (pu (v:= .int .i64 ((gn:Nat):Int)) rfl (by kernel_rfl) (wl_cmp rfl rfl rfl false (cb_lt_f (a:=j) (b:=gn) rfl rfl (by omega)) (by decide) (ne_ (cw_false rfl (cw_exit (eo_thenX (eo_loopX (eo_block_here (eo_then (sr (mv 1 rfl (wl_nil ?_)))))))))))))
   refine eo_then (cw_ret (eo_ret [.bool true] rfl ⟨rfl,trivial⟩ ?_))
   exact⟨_,rfl,rfl,hw1⟩
set_option maxHeartbeats 4000000 in
theorem g_words {w:World}{g lb lw:Nat}{WA IA NA:Option Addr}{wc ic nc:Nat}{ls:List Lst}(hB:Bk w g 77 [.slice WA ls.length wc,.slice IA 0 ic,.slice NA 0 nc]) (hW:Own w lw 22 1 WA ls.length wc (ls.map Lst.v)) (hal:Al0 w lb ls) (hlb:lb≤w.heap.size) (hN:ls.length≤1048576) (hln:∀a,(ls.getD a Lst.z).n≤1099511620000):
    Calls Try.prog 74 #[.pointer (some ⟨g,0,none⟩)] w (fun e w'=>e= .returned (.bool true)∧UpU lb w w'):=by
 refine sx_enter Try.func74 rfl (n:=99) rfl (bq rfl) (args:= [.pointer (some ⟨g,0,none⟩)]) (cw_keep [(0,.pointer (some ⟨g,0,none⟩))] ⟨rfl,trivial⟩ (sr (mv 1 rfl (ne_ (cw_seq (sr (mv 1 rfl (ne_ (cw_block ?_)))))))))
 refine cw_loop (T:=World×Nat)
  (fun⟨wr,i⟩=> [(0,.pointer (some ⟨g,0,none⟩)),(3,.int .i64 ((i:Nat):Int))])
  (fun⟨wr,i⟩=>wr)
  (fun⟨wr,i⟩=>(UpU lb w wr)∧(Bk wr g 77 [.slice WA ls.length wc,.slice IA 0 ic,.slice NA 0 nc])∧(Own wr lw 22 1 WA ls.length wc (ls.map Lst.v))∧(Al1 wr lb ls i 0)∧(i≤ls.length))
  (fun⟨wr,i⟩=>ls.length-i)
  (⟨w,0⟩:World×Nat) ⟨(UpU.refl lb w),hB,hW,hal,(Nat.zero_le _)⟩ rfl ⟨rfl,rfl,trivial⟩ ?_
 rintro⟨wr,i⟩ ⟨hw1,hB,hW,hal,hi⟩
 refine cw_re [(0,.pointer (some ⟨g,0,none⟩)),(3,.int .i64 ((i:Nat):Int))] wr rfl ⟨rfl,rfl,trivial⟩ (cw_seq (cw_seq ?_))
 by_cases hin:i<ls.length
 · 
  refine cw_region (mv 2 rfl (pf g 0 rfl (by kernel_rfl) (pf g 0 rfl (by kernel_rfl) (wl_load rfl rfl (load_cell (fun _=>by kernel_rfl) hB rfl) (by decide) (pu (v:= .int .i64 ((ls.length:Nat):Int)) rfl (by kernel_rfl) (wl_cmp rfl rfl rfl true (cb_lt_t (a:=i) (b:=ls.length) rfl rfl (by omega)) (by decide) (ne_ (cw_true rfl (cw_skip (eo_then (cw_seq (cw_block (cw_seq ?_)))))))))))))
  have hlni:=hln i
  refine cw_region (mv 1 rfl (pf g 0 rfl (by kernel_rfl) (pf g 0 rfl (by kernel_rfl) (wl_load rfl rfl (load_cell (fun _=>by kernel_rfl) hB rfl) (by decide) (mv 1 rfl ?_)))))
  obtain⟨p1,hp1,hc1⟩:=(hW).atL (i:=i) (by omega)
  refine wl_idx rfl rfl rfl un_wl sz_wl i rfl (by omega) p1 hp1 (by decide) (wl_load rfl rfl (load_cell1 ag_wl hc1) (by decide) (mv 1 rfl (ne_ (sr (mv 1 rfl (ne_ (cw_block ?_)))))))
  refine cw_loop (T:=World×Nat)
   (fun⟨wr,j⟩=> [(0,.pointer (some ⟨g,0,none⟩)),(3,.int .i64 ((i:Nat):Int)),(4,.slice ((ls.getD i Lst.z).A) ((ls.getD i Lst.z).n) ((ls.getD i Lst.z).c)),(5,.int .i64 ((j:Nat):Int))])
   (fun⟨wr,j⟩=>wr)
   (fun⟨wr,j⟩=>(UpU lb w wr)∧(Bk wr g 77 [.slice WA ls.length wc,.slice IA 0 ic,.slice NA 0 nc])∧(Own wr lw 22 1 WA ls.length wc (ls.map Lst.v))∧(Al1 wr lb ls i j)∧(j≤(ls.getD i Lst.z).n))
   (fun⟨wr,j⟩=>(ls.getD i Lst.z).n-j)
   (⟨wr,0⟩:World×Nat) ⟨hw1,hB,hW,hal,(Nat.zero_le _)⟩ rfl ⟨rfl,rfl,rfl,rfl,trivial⟩ ?_
  rintro⟨wr,j⟩ ⟨hw1,hB,hW,hal,hj⟩
  refine cw_re [(0,.pointer (some ⟨g,0,none⟩)),(3,.int .i64 ((i:Nat):Int)),(4,.slice ((ls.getD i Lst.z).A) ((ls.getD i Lst.z).n) ((ls.getD i Lst.z).c)),(5,.int .i64 ((j:Nat):Int))] wr rfl ⟨rfl,rfl,rfl,rfl,trivial⟩ (cw_seq (cw_seq ?_))
  by_cases hjn:j<(ls.getD i Lst.z).n
  · 
   refine cw_region (mv 2 rfl (pu (v:= .int .i64 (((ls.getD i Lst.z).n:Nat):Int)) rfl (by kernel_rfl) (wl_cmp rfl rfl rfl true (cb_lt_t (a:=j) (b:=(ls.getD i Lst.z).n) rfl rfl (by omega)) (by decide) (ne_ (cw_true rfl (cw_skip (eo_then (cw_seq (cw_block (cw_region (mv 4 rfl (wl_call rfl rfl (vs:= [.int .i64 ((i:Nat):Int),.int .i64 ((j:Nat):Int)]) (by kernel_rfl) (by decide) (g_sign1 (by omega) (by omega)) ?_))))))))))))
   rintro _ v2 ⟨xr4,rfl,r4,e3⟩
   refine ret_intro ?_
   have hw2:UpU lb w v2:=hw1.then_ext e3
   obtain rfl:=r4
   obtain⟨p5,hp5⟩:=((hal.ext e3)).addr hin (k:=j) (by omega)
   refine wl_idx rfl rfl rfl un_u64 sz_u64 j rfl (by omega) p5 hp5 (by decide) (wl_mark rfl rfl rfl (hal.ext e3) hin (by omega) hp5 fun v6 al7 uu8=>?_)
   have hw3:UpU lb w v6:=hw2.trans uu8
   refine wl_nil (eo_block_normal (eo_then (cw_region (mv 1 rfl (wl_ar rfl rfl rfl ((j+1:Nat):Int) (ai_add (a:=j) (b:=1) rfl rfl (by omega)) (by decide) (mv 1 rfl (wl_nil (eo_round (⟨v6,j+1⟩:World×Nat) ⟨hw3,(uu8.bk (hB.ext e3) (by decide)),(uu8.own (hW.ext e3) (by decide)),al7,(by omega)⟩ (show (ls.getD i Lst.z).n-(j+1)<(ls.getD i Lst.z).n-j by omega) rfl ⟨rfl,rfl,rfl,rfl,trivial⟩))))))))
  · 
   refine cw_region (mv 2 rfl (pu (v:= .int .i64 (((ls.getD i Lst.z).n:Nat):Int)) rfl (by kernel_rfl) (wl_cmp rfl rfl rfl false (cb_lt_f (a:=j) (b:=(ls.getD i Lst.z).n) rfl rfl (by omega)) (by decide) (ne_ (cw_false rfl (cw_exit (eo_thenX (eo_loopX (eo_block_here (eo_block_normal (eo_then (cw_region (mv 1 rfl ?_)))))))))))))
   refine wl_ar rfl rfl rfl ((i+1:Nat):Int) (ai_add (a:=i) (b:=1) rfl rfl (by omega)) (by decide) (mv 1 rfl (wl_nil (eo_round (⟨wr,i+1⟩:World×Nat) ⟨hw1,hB,hW,((hal).next (by omega)),(by omega)⟩ (show ls.length-(i+1)<ls.length-i by omega) rfl ⟨rfl,rfl,trivial⟩)))
 · 
  have hie:i=ls.length:=by omega
  rw [hie] at hal
  have hal2:=Al2.start hal
  refine cw_region (mv 2 rfl (pf g 0 rfl (by kernel_rfl) (pf g 0 rfl (by kernel_rfl) (wl_load rfl rfl (load_cell (fun _=>by kernel_rfl) hB rfl) (by decide) (pu (v:= .int .i64 ((ls.length:Nat):Int)) rfl (by kernel_rfl) (wl_cmp rfl rfl rfl false (cb_lt_f (a:=i) (b:=ls.length) rfl rfl (by omega)) (by decide) (ne_ (cw_false rfl (cw_exit (eo_thenX (eo_loopX (eo_block_here (eo_then ?_)))))))))))))
  refine sr (mv 1 rfl (pf g 0 rfl (by kernel_rfl) (pf g 0 rfl (by kernel_rfl) (wl_load rfl rfl (load_cell (fun _=>by kernel_rfl) hB rfl) (by decide) (pu (v:= .int .i64 ((ls.length:Nat):Int)) rfl (by kernel_rfl) (wl_make rfl (k:=ls.length) rfl rfl rfl Try.underlying73 info_wl rfl (by decide) (by omega) (by decide) fun g9 v10 hg11 hb12 e13=>?_))))))
  have ge14:w.heap.size≤g9:=by rw [←hg11];exact hw1.size
  have hwone:∀p,WA=some p→p.block≠g9:=fun p hp=>by have:=((hW).block p hp).2;omega
  have q15:g<g9:=by rw [←hg11];exact hB.lt
  clear hg11
  have hw2:UpU lb w v10:=hw1.then_ext e13
  refine mv 1 rfl (ne_ (cw_seq (sr (mv 1 rfl (ne_ (cw_block ?_))))))
  refine cw_loop (T:=World×Nat×List Lst×List Value)
   (fun⟨wr,i,gs,gv⟩=> [(0,.pointer (some ⟨g,0,none⟩)),(6,.slice (some ⟨g9,0,none⟩) ls.length ls.length),(7,.int .i64 ((i:Nat):Int))])
   (fun⟨wr,i,gs,gv⟩=>wr)
   (fun⟨wr,i,gs,gv⟩=>(UpU lb w wr)∧(Bk wr g 77 [.slice WA ls.length wc,.slice IA 0 ic,.slice NA 0 nc])∧(Own wr lw 22 1 WA ls.length wc (ls.map Lst.v))∧(Bk wr g9 22 gv)∧(gv.length=ls.length)∧(Al2 wr lb ls gs)∧(i≤ls.length)∧(∀a,i≤a→gs.getD a Lst.z=ls.getD a Lst.z)∧(∀a,a<i→(gs.getD a Lst.z).n=(ls.getD a Lst.z).n+80)∧(∀a,a<i→a<ls.length→gv.getD a undef= .slice (gs.getD a Lst.z).A (gs.getD a Lst.z).n (gs.getD a Lst.z).c))
   (fun⟨wr,i,gs,gv⟩=>ls.length-i)
   (⟨v10,0,ls,_⟩:World×Nat×List Lst×List Value) ⟨hw2,(hB.ext e13),(hW.ext e13),hb12,(List.length_replicate),(hal2.ext e13),(Nat.zero_le _),(fun _ _=>rfl),(fun a ha=>absurd ha (Nat.not_lt_zero _)),(fun a ha=>absurd ha (Nat.not_lt_zero _))⟩ rfl ⟨rfl,rfl,rfl,trivial⟩ ?_
  rintro⟨wr,i,gs,gv⟩ ⟨hw1,hB,hW,hG,hgl,hal,hi,hg1,hg2,hgv⟩
  refine cw_re [(0,.pointer (some ⟨g,0,none⟩)),(6,.slice (some ⟨g9,0,none⟩) ls.length ls.length),(7,.int .i64 ((i:Nat):Int))] wr rfl ⟨rfl,rfl,rfl,trivial⟩ (cw_seq (cw_seq ?_))
  by_cases hin:i<ls.length
  · 
   refine cw_region (mv 2 rfl (pf g 0 rfl (by kernel_rfl) (pf g 0 rfl (by kernel_rfl) (wl_load rfl rfl (load_cell (fun _=>by kernel_rfl) hB rfl) (by decide) (pu (v:= .int .i64 ((ls.length:Nat):Int)) rfl (by kernel_rfl) (wl_cmp rfl rfl rfl true (cb_lt_t (a:=i) (b:=ls.length) rfl rfl (by omega)) (by decide) (ne_ (cw_true rfl (cw_skip (eo_then (cw_seq (cw_block (cw_seq ?_)))))))))))))
   have hlni:=hln i
   refine cw_region (mv 1 rfl (pf g 0 rfl (by kernel_rfl) (pf g 0 rfl (by kernel_rfl) (wl_load rfl rfl (load_cell (fun _=>by kernel_rfl) hB rfl) (by decide) (mv 1 rfl ?_)))))
   obtain⟨p16,hp16,hc16⟩:=(hW).atL (i:=i) (by omega)
   refine wl_idx rfl rfl rfl un_wl sz_wl i rfl (by omega) p16 hp16 (by decide) (wl_load rfl rfl (load_cell1 ag_wl hc16) (by decide) (mv 1 rfl (ne_ (cw_seq (cw_seq ?_)))))
   have hgi:=(hg1 i (Nat.le_refl _)).symm
   refine cw_keep [(0,.pointer (some ⟨g,0,none⟩)),(6,.slice (some ⟨g9,0,none⟩) ls.length ls.length),(7,.int .i64 ((i:Nat):Int)),(45,.int .i64 ((i:Nat):Int)),(46,.pointer (some ⟨g,0,none⟩)),(47,.pointer (some ⟨g,0,none⟩)),(48,.pointer (some ⟨g,0,none⟩)),(49,.slice WA ls.length wc),(50,.int .i64 ((ls.length:Nat):Int)),(51,.bool true),(8,.slice ((ls.getD i Lst.z).A) ((ls.getD i Lst.z).n) ((ls.getD i Lst.z).c))] ⟨rfl,rfl,rfl,rfl,rfl,rfl,rfl,rfl,rfl,rfl,rfl,trivial⟩ ?_
   rw [hgi]
   refine cw_region (mv 1 rfl (ne_ (cw_block ?_)))
   refine cw_loop (T:=World×Nat×List Lst)
    (fun⟨wr,j,gs2⟩=> [(0,.pointer (some ⟨g,0,none⟩)),(6,.slice (some ⟨g9,0,none⟩) ls.length ls.length),(7,.int .i64 ((i:Nat):Int)),(8,.slice ((gs2.getD i Lst.z).A) ((gs2.getD i Lst.z).n) ((gs2.getD i Lst.z).c)),(9,.int .i64 ((j:Nat):Int))])
    (fun⟨wr,j,gs2⟩=>wr)
    (fun⟨wr,j,gs2⟩=>(UpU lb w wr)∧(Bk wr g 77 [.slice WA ls.length wc,.slice IA 0 ic,.slice NA 0 nc])∧(Own wr lw 22 1 WA ls.length wc (ls.map Lst.v))∧(Bk wr g9 22 gv)∧(Al2 wr lb ls gs2)∧(j≤80)∧(∀a,a≠i→gs2.getD a Lst.z=gs.getD a Lst.z)∧((gs2.getD i Lst.z).n=(ls.getD i Lst.z).n+j))
    (fun⟨wr,j,gs2⟩=>80-j)
    (⟨wr,0,gs⟩:World×Nat×List Lst) ⟨hw1,hB,hW,hG,hal,(Nat.zero_le _),(fun _ _=>rfl),(by rw [hgi];rfl)⟩ rfl ⟨rfl,rfl,rfl,rfl,rfl,trivial⟩ ?_
   rintro⟨wr,j,gs2⟩ ⟨hw1,hB,hW,hG,hal,hj,hs1,hs2⟩
   refine cw_re [(0,.pointer (some ⟨g,0,none⟩)),(6,.slice (some ⟨g9,0,none⟩) ls.length ls.length),(7,.int .i64 ((i:Nat):Int)),(8,.slice ((gs2.getD i Lst.z).A) ((gs2.getD i Lst.z).n) ((gs2.getD i Lst.z).c)),(9,.int .i64 ((j:Nat):Int))] wr rfl ⟨rfl,rfl,rfl,rfl,rfl,trivial⟩ (cw_seq (cw_seq ?_))
   by_cases hjn:j<80
   · 
    refine cw_region (mv 1 rfl (wl_cmp rfl rfl rfl true (cb_lt_t (a:=j) (b:=80) rfl rfl (by omega)) (by decide) (ne_ (cw_true rfl (cw_skip (eo_then (cw_seq (cw_block (cw_region (mv 3 rfl (pu (v:= .int .i64 (((gs2.getD i Lst.z).n:Nat):Int)) rfl (by kernel_rfl) (wl_call rfl rfl (vs:= [.int .i64 ((i:Nat):Int),.int .i64 (((gs2.getD i Lst.z).n:Nat):Int)]) (by kernel_rfl) (by decide) (g_sign1 (by omega) (by omega)) ?_))))))))))))
    rintro _ v17 ⟨xr19,rfl,r19,e18⟩
    refine ret_intro ?_
    have hw2:UpU lb w v17:=hw1.then_ext e18
    obtain rfl:=r19
    refine wl_bslice rfl rfl (by decide) (k:=1) (e:=24) [.int .u64 ((sgm i ((gs2.getD i Lst.z).n):Nat):Int)] (fun _=>by kernel_rfl) fun g20 v21 nb=>?_
    have hb22:=nb.bk
    have e23:=nb.ext
    clear nb
    have hw3:UpU lb w v21:=hw2.then_ext e23
    refine wl_grow rfl rfl rfl (hal.ext (e18.trans e23)) (Nat.le_trans hlb hw3.size) hin hb22 (by omega) (by decide) fun A24 c25 v26 al27 uu28=>?_
    have hw4:UpU lb w v26:=hw3.trans uu28
    refine mv 1 rfl (wl_nil (eo_block_normal (eo_then ?_)))
    have hnew:(gs2.set i ⟨A24,(gs2.getD i Lst.z).n+1,c25⟩).getD i Lst.z=(⟨A24,(gs2.getD i Lst.z).n+1,c25⟩:Lst):=getD_set_self (by rw [hal.len];exact hin)
    refine cw_keep [(0,.pointer (some ⟨g,0,none⟩)),(6,.slice (some ⟨g9,0,none⟩) ls.length ls.length),(7,.int .i64 ((i:Nat):Int)),(8,.slice ((⟨A24,(gs2.getD i Lst.z).n+1,c25⟩:Lst).A) ((⟨A24,(gs2.getD i Lst.z).n+1,c25⟩:Lst).n) ((⟨A24,(gs2.getD i Lst.z).n+1,c25⟩:Lst).c)),(9,.int .i64 ((j:Nat):Int)),(61,.int .i64 ((j:Nat):Int)),(62,.bool true)] ⟨rfl,rfl,rfl,rfl,rfl,rfl,rfl,trivial⟩ ?_
    rw [←hnew]
    refine cw_region (mv 1 rfl (wl_ar rfl rfl rfl ((j+1:Nat):Int) (ai_add (a:=j) (b:=1) rfl rfl (by omega)) (by decide) (mv 1 rfl (wl_nil (eo_round (⟨v26,j+1,gs2.set i ⟨A24,(gs2.getD i Lst.z).n+1,c25⟩⟩:World×Nat×List Lst) ⟨hw4,(uu28.bk (hB.ext (e18.trans e23)) (by decide)),(uu28.own (hW.ext (e18.trans e23)) (by decide)),(uu28.bk (hG.ext (e18.trans e23)) (by decide)),al27,(by omega),(fun a ha=>(getD_set_other ha).trans (hs1 a ha)),(by rw [hnew];show (gs2.getD i Lst.z).n+1=_;omega)⟩ (show 80-(j+1)<80-j by omega) rfl ⟨rfl,rfl,rfl,rfl,rfl,trivial⟩)))))
   · 
    have hj80:j=80:=by omega
    refine cw_region (mv 1 rfl (wl_cmp rfl rfl rfl false (cb_lt_f (a:=j) (b:=80) rfl rfl (by omega)) (by decide) (ne_ (cw_false rfl (cw_exit (eo_thenX (eo_loopX (eo_block_here (eo_then (cw_region (mv 3 rfl (wl_idx rfl rfl rfl un_wl sz_wl i rfl (by omega) ⟨g9,i,none⟩ (arr_at _ _) (by decide) ?_))))))))))))
    have hb30:=hG
    refine wl_stored1 rfl rfl rfl sz_wl rfl hb30 (by omega) rfl (gv.set i (.slice ((gs2.getD i Lst.z).A) ((gs2.getD i Lst.z).n) ((gs2.getD i Lst.z).c))) rfl fun v29 hb31 u32 hs33=>?_
    have hw2:UpU lb w v29:=hw1.upd_new u32 ge14 hlb
    refine wl_nil (eo_block_normal (eo_then (cw_region (mv 1 rfl (wl_ar rfl rfl rfl ((i+1:Nat):Int) (ai_add (a:=i) (b:=1) rfl rfl (by omega)) (by decide) (mv 1 rfl (wl_nil (eo_round (⟨v29,i+1,gs2,gv.set i (.slice ((gs2.getD i Lst.z).A) ((gs2.getD i Lst.z).n) ((gs2.getD i Lst.z).c))⟩:World×Nat×List Lst×List Value) ⟨hw2,(hB.updN u32 (by omega)),(hW.upd u32 hwone),hb31,(by rw [List.length_set];exact hgl),(hal.updT hb30 (by decide) u32),(by omega),(fun a ha=>(hs1 a (by omega)).trans (hg1 a (by omega))),(fun a ha=>by by_cases e:a=i;(· subst e;rw [hs2];omega);(· rw [hs1 a e];exact hg2 a (by omega))),(fun a ha hl=>by by_cases e:a=i;(· subst e;rw [getD_set_self (by omega)]);(· rw [getD_set_other e,hs1 a e];exact hgv a (by omega) hl))⟩ (show ls.length-(i+1)<ls.length-i by omega) rfl ⟨rfl,rfl,rfl,trivial⟩))))))))
  · 
   have hie:i=ls.length:=by omega
   rw [hie] at hg2 hgv
   refine cw_region (mv 2 rfl (pf g 0 rfl (by kernel_rfl) (pf g 0 rfl (by kernel_rfl) (wl_load rfl rfl (load_cell (fun _=>by kernel_rfl) hB rfl) (by decide) (pu (v:= .int .i64 ((ls.length:Nat):Int)) rfl (by kernel_rfl) (wl_cmp rfl rfl rfl false (cb_lt_f (a:=i) (b:=ls.length) rfl rfl (by omega)) (by decide) (ne_ (cw_false rfl (cw_exit (eo_thenX (eo_loopX (eo_block_here (eo_then ?_)))))))))))))
   refine cw_seq (sr (mv 1 rfl (ne_ (cw_block ?_))))
   refine cw_loop (T:=World×Nat)
    (fun⟨wr,k⟩=> [(0,.pointer (some ⟨g,0,none⟩)),(6,.slice (some ⟨g9,0,none⟩) ls.length ls.length),(10,.int .i64 ((k:Nat):Int))])
    (fun⟨wr,k⟩=>wr)
    (fun⟨wr,k⟩=>(UpU lb w wr)∧(Bk wr g 77 [.slice WA ls.length wc,.slice IA 0 ic,.slice NA 0 nc])∧(Own wr lw 22 1 WA ls.length wc (ls.map Lst.v))∧(Bk wr g9 22 gv)∧(Al2 wr lb ls gs)∧(k≤ls.length))
    (fun⟨wr,k⟩=>ls.length-k)
    (⟨wr,0⟩:World×Nat) ⟨hw1,hB,hW,hG,hal,(Nat.zero_le _)⟩ rfl ⟨rfl,rfl,rfl,trivial⟩ ?_
   rintro⟨wr,k⟩ ⟨hw1,hB,hW,hG,hal,hk⟩
   refine cw_re [(0,.pointer (some ⟨g,0,none⟩)),(6,.slice (some ⟨g9,0,none⟩) ls.length ls.length),(10,.int .i64 ((k:Nat):Int))] wr rfl ⟨rfl,rfl,rfl,trivial⟩ (cw_seq (cw_seq ?_))
   by_cases hkn:k<ls.length
   · 
    refine cw_region (mv 2 rfl (pf g 0 rfl (by kernel_rfl) (pf g 0 rfl (by kernel_rfl) (wl_load rfl rfl (load_cell (fun _=>by kernel_rfl) hB rfl) (by decide) (pu (v:= .int .i64 ((ls.length:Nat):Int)) rfl (by kernel_rfl) (wl_cmp rfl rfl rfl true (cb_lt_t (a:=k) (b:=ls.length) rfl rfl (by omega)) (by decide) (ne_ (cw_true rfl (cw_skip (eo_then (cw_seq (cw_block (cw_seq ?_)))))))))))))
    have hlnk:=hln k
    have hgnk:=hg2 k hkn
    obtain⟨p34,hp34,hc34⟩:=(hW).atL (i:=k) (by omega)
    refine cw_draw mix 14 [] [Is (.int .i64 ((k:Nat):Int)),Is (.pointer (some ⟨g,0,none⟩)),Is (.pointer (some ⟨g,0,none⟩)),Is (.pointer (some ⟨g,0,none⟩)),Is (.slice WA ls.length wc),Is (.int .i64 ((k:Nat):Int)),Is (.pointer (some p34)),Is (.slice ((ls.getD k Lst.z).A) ((ls.getD k Lst.z).n) ((ls.getD k Lst.z).c)),Is (.slice (some ⟨g9,0,none⟩) ls.length ls.length),Is (.int .i64 ((k:Nat):Int)),Is (.pointer (some (⟨g9,k,none⟩))),Is (.slice ((gs.getD k Lst.z).A) ((gs.getD k Lst.z).n) ((gs.getD k Lst.z).c)),Is (.bool true),Is (.bool false)] [[],[],[1],[2],[3],[],[4,5],[6],[],[],[8,9],[10],[0,7,11],[12]] [[],[],[1],[1,2],[1,2,3],[],[1,2,3,4,5],[1,2,3,4,5,6],[],[],[8,9],[8,9,10],[0,1,2,3,4,5,6,7,8,9,10,11],[0,1,2,3,4,5,6,7,8,9,10,11,12]] rfl
     (obs_cons rfl rfl (hob rfl rfl ?_) (obs_cons rfl rfl (hob rfl rfl ?_) (obs_cons rfl rfl (hob rfl rfl ?_) (obs_cons rfl rfl (hob rfl rfl ?_) (obs_cons rfl rfl (hob rfl rfl ?_) (obs_cons rfl rfl (hob rfl rfl ?_) (obs_cons rfl rfl (hob rfl rfl ?_) (obs_cons rfl rfl (hob rfl rfl ?_) (obs_cons rfl rfl (hob rfl rfl ?_) (obs_cons rfl rfl (hob rfl rfl ?_) (obs_cons rfl rfl (hob rfl rfl ?_) (obs_cons rfl rfl (hob rfl rfl ?_) (obs_cons rfl rfl (hob rfl rfl ?_) (obs_cons rfl rfl (hob rfl rfl ?_) obs_nil)))))))))))))) ?_
    · 
     intro v35 e36
     have hw2:UpU lb w v35:=hw1.then_ext e36
     refine deps_nil (mv 1 rfl ?_)
     exact pi_done rfl (Ext.refl _) rfl
    · 
     intro v37 e38
     have hw2:UpU lb w v37:=hw1.then_ext e38
     refine deps_nil (mv 1 rfl ?_)
     exact pi_done rfl (Ext.refl _) rfl
    · 
     intro v39 e40
     have hw2:UpU lb w v39:=hw1.then_ext e40
     refine dk rfl rfl (deps_nil (pf g 0 rfl (by kernel_rfl) ?_))
     exact pi_done rfl (Ext.refl _) rfl
    · 
     intro v46 e47
     have hw2:UpU lb w v46:=hw1.then_ext e47
     refine dk rfl rfl (deps_nil (pf g 0 rfl (by kernel_rfl) ?_))
     exact pi_done rfl (Ext.refl _) rfl
    · 
     intro v53 e54
     have hw2:UpU lb w v53:=hw1.then_ext e54
     refine dk rfl rfl (deps_nil (wl_load rfl rfl (load_cell (fun _=>by kernel_rfl) (hB.ext e54) rfl) (by decide) ?_))
     exact pi_done rfl (Ext.refl _) rfl
    · 
     intro v60 e61
     have hw2:UpU lb w v60:=hw1.then_ext e61
     refine deps_nil (mv 1 rfl ?_)
     exact pi_done rfl (Ext.refl _) rfl
    · 
     intro v62 e63
     have hw2:UpU lb w v62:=hw1.then_ext e63
     refine dk rfl rfl (dk rfl rfl (deps_nil (wl_idx rfl rfl rfl un_wl sz_wl k rfl (by omega) p34 hp34 (by decide) ?_)))
     exact pi_done rfl (Ext.refl _) rfl
    · 
     intro v74 e75
     have hw2:UpU lb w v74:=hw1.then_ext e75
     refine dk rfl rfl (deps_nil (wl_load rfl rfl (load_cell1 ag_wl (e75.cell hc34)) (by decide) ?_))
     exact pi_done rfl (Ext.refl _) rfl
    · 
     intro v81 e82
     have hw2:UpU lb w v81:=hw1.then_ext e82
     refine deps_nil (mv 1 rfl ?_)
     exact pi_done rfl (Ext.refl _) rfl
    · 
     intro v83 e84
     have hw2:UpU lb w v83:=hw1.then_ext e84
     refine deps_nil (mv 1 rfl ?_)
     exact pi_done rfl (Ext.refl _) rfl
    · 
     intro v85 e86
     have hw2:UpU lb w v85:=hw1.then_ext e86
     refine dk rfl rfl (dk rfl rfl (deps_nil (wl_idx rfl rfl rfl un_wl sz_wl k rfl (by omega) ⟨g9,k,none⟩ (arr_at _ _) (by decide) ?_)))
     exact pi_done rfl (Ext.refl _) rfl
    · 
     intro v97 e98
     have hw2:UpU lb w v97:=hw1.then_ext e98
     refine dk rfl rfl (deps_nil (wl_load rfl rfl (load_cell1 ag_wl (by have h:=((hG.ext e98)).cell (i:=k) (by omega);rw [hgv k (by omega) (by omega)] at h;exact h)) (by decide) ?_))
     exact pi_done rfl (Ext.refl _) rfl
    · 
     intro v104 e105
     have hw2:UpU lb w v104:=hw1.then_ext e105
     refine dk rfl rfl (dk rfl rfl (dk rfl rfl (deps_nil (wl_call rfl rfl (vs:= [.int .i64 ((k:Nat):Int),.slice ((ls.getD k Lst.z).A) ((ls.getD k Lst.z).n) ((ls.getD k Lst.z).c),.slice ((gs.getD k Lst.z).A) ((gs.getD k Lst.z).n) ((gs.getD k Lst.z).c)]) (by kernel_rfl) (by decide) (g_holds (by omega) ((hal.ext e105).rd1 hkn hN (by omega)) ((hal.ext e105).rd2 hkn hN (by omega)) (by omega) (by omega)) ?_))))
     rintro _ v121 ⟨xr123,rfl,r123,e122⟩
     refine ret_intro ?_
     have hw3:UpU lb w v121:=hw2.then_ext e122
     obtain rfl:=r123
     exact pi_done rfl e122 rfl
    · 
     intro v124 e125
     have hw2:UpU lb w v124:=hw1.then_ext e125
     refine dk rfl rfl (deps_nil (pu (v:= .bool false) rfl (by kernel_rfl) ?_))
     exact pi_done rfl (Ext.refl _) rfl
    · 
     intro v131 e132
     have hw2:UpU lb w v131:=hw1.then_ext e132
     refine dk rfl rfl (dk rfl rfl (dk rfl rfl (dk rfl rfl (dk rfl rfl (dk rfl rfl (dk rfl rfl (dk rfl rfl (dk rfl rfl (dk rfl rfl (dk rfl rfl (dk rfl rfl (dk rfl rfl (dk rfl rfl ?_)))))))))))))
     refine deps_nil (wl_nil (eo_np (eo_then (cw_false rfl (cw_skip (eo_block_normal (eo_then (cw_region (mv 1 rfl (wl_ar rfl rfl rfl ((k+1:Nat):Int) (ai_add (a:=k) (b:=1) rfl rfl (by omega)) (by decide) (mv 1 rfl (wl_nil (eo_round (⟨v131,k+1⟩:World×Nat) ⟨hw2,(hB.ext e132),(hW.ext e132),(hG.ext e132),(hal.ext e132),(by omega)⟩ (show ls.length-(k+1)<ls.length-k by omega) rfl ⟨rfl,rfl,rfl,trivial⟩)))))))))))))
   · 
    refine cw_region (mv 2 rfl (pf g 0 rfl (by kernel_rfl) (pf g 0 rfl (by kernel_rfl) (wl_load rfl rfl (load_cell (fun _=>by kernel_rfl) hB rfl) (by decide) (pu (v:= .int .i64 ((ls.length:Nat):Int)) rfl (by kernel_rfl) (wl_cmp rfl rfl rfl false (cb_lt_f (a:=k) (b:=ls.length) rfl rfl (by omega)) (by decide) (ne_ (cw_false rfl (cw_exit (eo_thenX (eo_loopX (eo_block_here (eo_then ?_)))))))))))))
    refine sr (mv 1 rfl (ne_ (cw_ret (eo_ret [.bool true] rfl ⟨rfl,trivial⟩ ?_))))
    exact⟨rfl,hw1⟩
set_option maxHeartbeats 4000000 in
theorem g_ints0 {w:World}{g wn wc ic nc:Nat}{WA IA NA:Option Addr}(hB:Bk w g 77 [.slice WA wn wc,.slice IA 0 ic,.slice NA 0 nc]):
    Calls Try.prog 75 #[.pointer (some ⟨g,0,none⟩)] w (Gv w (Is (.bool true))):=by
 refine sx_enter Try.func75 rfl (n:=154) rfl (bq rfl) (args:= [.pointer (some ⟨g,0,none⟩)]) (cw_keep [(0,.pointer (some ⟨g,0,none⟩))] ⟨rfl,trivial⟩ (sr (mv 1 rfl (ne_ (cw_seq (sr (mv 1 rfl (ne_ (cw_block ?_)))))))))
 refine cw_loop (T:=World×Nat)
  (fun⟨wr,i⟩=> [(0,.pointer (some ⟨g,0,none⟩)),(3,.int .i64 ((i:Nat):Int))])
  (fun⟨wr,i⟩=>wr)
  (fun⟨wr,i⟩=>(Ext w wr)∧(Bk wr g 77 [.slice WA wn wc,.slice IA 0 ic,.slice NA 0 nc]))
  (fun⟨wr,i⟩=>i)
  (⟨w,0⟩:World×Nat) ⟨(Ext.refl w),hB⟩ rfl ⟨rfl,rfl,trivial⟩ ?_
 rintro⟨wr,i⟩ ⟨hw1,hB⟩
 refine cw_re [(0,.pointer (some ⟨g,0,none⟩)),(3,.int .i64 ((i:Nat):Int))] wr rfl ⟨rfl,rfl,trivial⟩ (cw_seq (sr (mv 2 rfl (pf g 0 rfl (by kernel_rfl) (pf g 1 rfl (by kernel_rfl) (wl_load rfl rfl (load_cell (fun _=>by kernel_rfl) hB rfl) (by decide) (pu (v:= .int .i64 0) rfl (by kernel_rfl) (wl_cmp rfl rfl rfl false (cb_lt_f (a:=i) (b:=0) rfl rfl (by omega)) (by decide) (ne_ (cw_false rfl (cw_exit (eo_thenX (eo_loopX ?_)))))))))))))
 refine eo_block_here (eo_then (sr (mv 1 rfl (pf g 0 rfl (by kernel_rfl) (pf g 1 rfl (by kernel_rfl) (wl_load rfl rfl (load_cell (fun _=>by kernel_rfl) hB rfl) (by decide) (pu (v:= .int .i64 0) rfl (by kernel_rfl) (wl_make rfl (k:=0) rfl rfl rfl Try.underlying74 info_zl2 rfl (by decide) (by omega) (by decide) fun g1 v2 hg3 hb4 e5=>?_))))))))
 have ge6:w.heap.size≤g1:=by rw [←hg3];exact hw1.size
 clear hg3
 have hw2:=hw1.trans e5
 refine mv 1 rfl (ne_ (cw_seq (sr (mv 1 rfl (ne_ (cw_block ?_))))))
 refine cw_loop (T:=World×Nat)
  (fun⟨wr,i⟩=> [(0,.pointer (some ⟨g,0,none⟩)),(6,.slice (some ⟨g1,0,none⟩) 0 0),(7,.int .i64 ((i:Nat):Int))])
  (fun⟨wr,i⟩=>wr)
  (fun⟨wr,i⟩=>(Ext w wr)∧(Bk wr g 77 [.slice WA wn wc,.slice IA 0 ic,.slice NA 0 nc]))
  (fun⟨wr,i⟩=>i)
  (⟨v2,0⟩:World×Nat) ⟨hw2,(hB.ext e5)⟩ rfl ⟨rfl,rfl,rfl,trivial⟩ ?_
 rintro⟨wr,i⟩ ⟨hw1,hB⟩
 refine cw_re [(0,.pointer (some ⟨g,0,none⟩)),(6,.slice (some ⟨g1,0,none⟩) 0 0),(7,.int .i64 ((i:Nat):Int))] wr rfl ⟨rfl,rfl,rfl,trivial⟩ (cw_seq (sr (mv 2 rfl (pf g 0 rfl (by kernel_rfl) (pf g 1 rfl (by kernel_rfl) (wl_load rfl rfl (load_cell (fun _=>by kernel_rfl) hB rfl) (by decide) (pu (v:= .int .i64 0) rfl (by kernel_rfl) (wl_cmp rfl rfl rfl false (cb_lt_f (a:=i) (b:=0) rfl rfl (by omega)) (by decide) (ne_ (cw_false rfl (cw_exit (eo_thenX (eo_loopX ?_)))))))))))))
 refine eo_block_here (eo_then (cw_seq (sr (mv 1 rfl (ne_ (cw_block ?_))))))
 refine cw_loop (T:=World×Nat)
  (fun⟨wr,i⟩=> [(0,.pointer (some ⟨g,0,none⟩)),(6,.slice (some ⟨g1,0,none⟩) 0 0),(10,.int .i64 ((i:Nat):Int))])
  (fun⟨wr,i⟩=>wr)
  (fun⟨wr,i⟩=>(Ext w wr)∧(Bk wr g 77 [.slice WA wn wc,.slice IA 0 ic,.slice NA 0 nc]))
  (fun⟨wr,i⟩=>i)
  (⟨wr,0⟩:World×Nat) ⟨hw1,hB⟩ rfl ⟨rfl,rfl,rfl,trivial⟩ ?_
 rintro⟨wr,i⟩ ⟨hw1,hB⟩
 refine cw_re [(0,.pointer (some ⟨g,0,none⟩)),(6,.slice (some ⟨g1,0,none⟩) 0 0),(10,.int .i64 ((i:Nat):Int))] wr rfl ⟨rfl,rfl,rfl,trivial⟩ (cw_seq (sr (mv 2 rfl (pf g 0 rfl (by kernel_rfl) (pf g 1 rfl (by kernel_rfl) (wl_load rfl rfl (load_cell (fun _=>by kernel_rfl) hB rfl) (by decide) (pu (v:= .int .i64 0) rfl (by kernel_rfl) (wl_cmp rfl rfl rfl false (cb_lt_f (a:=i) (b:=0) rfl rfl (by omega)) (by decide) (ne_ (cw_false rfl (cw_exit (eo_thenX (eo_loopX ?_)))))))))))))
 refine eo_block_here (eo_then (sr (mv 1 rfl (ne_ (cw_ret (eo_ret [.bool true] rfl ⟨rfl,trivial⟩ ?_))))))
 exact⟨_,rfl,rfl,hw1⟩
set_option maxHeartbeats 4000000 in
theorem g_nums0 {w:World}{g wn wc ic nc:Nat}{WA IA NA:Option Addr}(hB:Bk w g 77 [.slice WA wn wc,.slice IA 0 ic,.slice NA 0 nc]):
    Calls Try.prog 76 #[.pointer (some ⟨g,0,none⟩)] w (Gv w (Is (.bool true))):=by
 refine sx_enter Try.func76 rfl (n:=133) rfl (bq rfl) (args:= [.pointer (some ⟨g,0,none⟩)]) (cw_keep [(0,.pointer (some ⟨g,0,none⟩))] ⟨rfl,trivial⟩ (sr (mv 1 rfl (ne_ (cw_seq (sr (mv 1 rfl (ne_ (cw_block ?_)))))))))
 refine cw_loop (T:=World×Nat)
  (fun⟨wr,i⟩=> [(0,.pointer (some ⟨g,0,none⟩)),(3,.int .i64 ((i:Nat):Int))])
  (fun⟨wr,i⟩=>wr)
  (fun⟨wr,i⟩=>(Ext w wr)∧(Bk wr g 77 [.slice WA wn wc,.slice IA 0 ic,.slice NA 0 nc]))
  (fun⟨wr,i⟩=>i)
  (⟨w,0⟩:World×Nat) ⟨(Ext.refl w),hB⟩ rfl ⟨rfl,rfl,trivial⟩ ?_
 rintro⟨wr,i⟩ ⟨hw1,hB⟩
 refine cw_re [(0,.pointer (some ⟨g,0,none⟩)),(3,.int .i64 ((i:Nat):Int))] wr rfl ⟨rfl,rfl,trivial⟩ (cw_seq (sr (mv 2 rfl (pf g 0 rfl (by kernel_rfl) (pf g 2 rfl (by kernel_rfl) (wl_load rfl rfl (load_cell (fun _=>by kernel_rfl) hB rfl) (by decide) (pu (v:= .int .i64 0) rfl (by kernel_rfl) (wl_cmp rfl rfl rfl false (cb_lt_f (a:=i) (b:=0) rfl rfl (by omega)) (by decide) (ne_ (cw_false rfl (cw_exit (eo_thenX (eo_loopX ?_)))))))))))))
 refine eo_block_here (eo_then (sr (mv 1 rfl (pf g 0 rfl (by kernel_rfl) (pf g 2 rfl (by kernel_rfl) (wl_load rfl rfl (load_cell (fun _=>by kernel_rfl) hB rfl) (by decide) (pu (v:= .int .i64 0) rfl (by kernel_rfl) (wl_make rfl (k:=0) rfl rfl rfl Try.underlying75 info_nl2 rfl (by decide) (by omega) (by decide) fun g1 v2 hg3 hb4 e5=>?_))))))))
 have ge6:w.heap.size≤g1:=by rw [←hg3];exact hw1.size
 clear hg3
 have hw2:=hw1.trans e5
 refine mv 1 rfl (ne_ (cw_seq (sr (mv 1 rfl (ne_ (cw_block ?_))))))
 refine cw_loop (T:=World×Nat)
  (fun⟨wr,i⟩=> [(0,.pointer (some ⟨g,0,none⟩)),(6,.slice (some ⟨g1,0,none⟩) 0 0),(7,.int .i64 ((i:Nat):Int))])
  (fun⟨wr,i⟩=>wr)
  (fun⟨wr,i⟩=>(Ext w wr)∧(Bk wr g 77 [.slice WA wn wc,.slice IA 0 ic,.slice NA 0 nc]))
  (fun⟨wr,i⟩=>i)
  (⟨v2,0⟩:World×Nat) ⟨hw2,(hB.ext e5)⟩ rfl ⟨rfl,rfl,rfl,trivial⟩ ?_
 rintro⟨wr,i⟩ ⟨hw1,hB⟩
 refine cw_re [(0,.pointer (some ⟨g,0,none⟩)),(6,.slice (some ⟨g1,0,none⟩) 0 0),(7,.int .i64 ((i:Nat):Int))] wr rfl ⟨rfl,rfl,rfl,trivial⟩ (cw_seq (sr (mv 2 rfl (pf g 0 rfl (by kernel_rfl) (pf g 2 rfl (by kernel_rfl) (wl_load rfl rfl (load_cell (fun _=>by kernel_rfl) hB rfl) (by decide) (pu (v:= .int .i64 0) rfl (by kernel_rfl) (wl_cmp rfl rfl rfl false (cb_lt_f (a:=i) (b:=0) rfl rfl (by omega)) (by decide) (ne_ (cw_false rfl (cw_exit (eo_thenX (eo_loopX ?_)))))))))))))
 refine eo_block_here (eo_then (cw_seq (sr (mv 1 rfl (ne_ (cw_block ?_))))))
 refine cw_loop (T:=World×Nat)
  (fun⟨wr,i⟩=> [(0,.pointer (some ⟨g,0,none⟩)),(6,.slice (some ⟨g1,0,none⟩) 0 0),(10,.int .i64 ((i:Nat):Int))])
  (fun⟨wr,i⟩=>wr)
  (fun⟨wr,i⟩=>(Ext w wr)∧(Bk wr g 77 [.slice WA wn wc,.slice IA 0 ic,.slice NA 0 nc]))
  (fun⟨wr,i⟩=>i)
  (⟨wr,0⟩:World×Nat) ⟨hw1,hB⟩ rfl ⟨rfl,rfl,rfl,trivial⟩ ?_
 rintro⟨wr,i⟩ ⟨hw1,hB⟩
 refine cw_re [(0,.pointer (some ⟨g,0,none⟩)),(6,.slice (some ⟨g1,0,none⟩) 0 0),(10,.int .i64 ((i:Nat):Int))] wr rfl ⟨rfl,rfl,rfl,trivial⟩ (cw_seq (sr (mv 2 rfl (pf g 0 rfl (by kernel_rfl) (pf g 2 rfl (by kernel_rfl) (wl_load rfl rfl (load_cell (fun _=>by kernel_rfl) hB rfl) (by decide) (pu (v:= .int .i64 0) rfl (by kernel_rfl) (wl_cmp rfl rfl rfl false (cb_lt_f (a:=i) (b:=0) rfl rfl (by omega)) (by decide) (ne_ (cw_false rfl (cw_exit (eo_thenX (eo_loopX ?_)))))))))))))
 refine eo_block_here (eo_then (sr (mv 1 rfl (ne_ (cw_ret (eo_ret [.bool true] rfl ⟨rfl,trivial⟩ ?_))))))
 exact⟨_,rfl,rfl,hw1⟩
set_option maxHeartbeats 4000000 in
theorem g_Apart {w:World}{g lb lw:Nat}{WA IA NA:Option Addr}{wc ic nc:Nat}{ls:List Lst}(hB:Bk w g 77 [.slice WA ls.length wc,.slice IA 0 ic,.slice NA 0 nc]) (hW:Own w lw 22 1 WA ls.length wc (ls.map Lst.v)) (hal:Al0 w lb ls) (hlb:lb≤w.heap.size) (hN:ls.length≤1048576) (hln:∀a,(ls.getD a Lst.z).n≤1099511620000):
    Calls Try.prog 41 #[.pointer (some ⟨g,0,none⟩)] w (fun e w'=>e= .returned (.bool true)∧UpU lb w w'):=by
 refine sx_enter Try.func41 rfl (n:=19) rfl (bq rfl) (args:= [.pointer (some ⟨g,0,none⟩)]) (cw_keep [(0,.pointer (some ⟨g,0,none⟩))] ⟨rfl,trivial⟩ (sr (mv 1 rfl (ne_ (sr (mv 1 rfl (wl_call rfl rfl (vs:= [.pointer (some ⟨g,0,none⟩)]) (by kernel_rfl) (by decide) (g_words hB hW hal hlb hN hln) ?_)))))))
 rintro _ v1 ⟨rfl,uu2⟩
 refine ret_intro ?_
 have hw1:UpU lb w v1:=(UpU.refl lb w).trans uu2
 refine mv 1 rfl (ne_ (sr (mv 1 rfl (wl_call rfl rfl (vs:= [.pointer (some ⟨g,0,none⟩)]) (by kernel_rfl) (by decide) (g_ints0 (uu2.bk hB (by decide))) ?_))))
 rintro _ v3 ⟨xr5,rfl,r5,e4⟩
 refine ret_intro ?_
 have hw2:UpU lb w v3:=hw1.then_ext e4
 obtain rfl:=r5
 refine mv 1 rfl (ne_ (sr (mv 1 rfl (wl_call rfl rfl (vs:= [.pointer (some ⟨g,0,none⟩)]) (by kernel_rfl) (by decide) (g_nums0 ((uu2.bk hB (by decide)).ext e4)) ?_))))
 rintro _ v6 ⟨xr8,rfl,r8,e7⟩
 refine ret_intro ?_
 have hw3:UpU lb w v6:=hw2.then_ext e7
 obtain rfl:=r8
 refine mv 1 rfl (ne_ (sr (mv 3 rfl (pu (v:= .bool true) rfl (by kernel_rfl) (mv 2 rfl (pu (v:= .bool true) rfl (by kernel_rfl) (mv 1 rfl (ne_ (cw_ret (eo_ret [.bool true] rfl ⟨rfl,trivial⟩ ?_))))))))))
 exact⟨rfl,hw3⟩
def mk80 (n:Nat):List Nat:=(List.range 80).map fun k=>mkr (n+k)
theorem mk80_wf {n:Nat}(h:n≤1099511627776):Wf (mk80 n):=fun x hx=>by
 obtain⟨k,hk,rfl⟩:=List.mem_map.1 hx
 have:=List.mem_range.1 hk
 unfold mkr;rw [WB_def];omega
theorem mk80_len (n:Nat):(mk80 n).length=80:=by unfold mk80;rw [List.length_map,List.length_range]
theorem room_rd {w:World}{g n:Nat}{ys:List Nat}(h:Bk w g 24 ((ys++mk80 n).map W64)) (hl:ys.length=n) (hw:Wf ys) (hn:n≤1099511627776):Rd w (some ⟨g,0,none⟩) n (n+80) ys:=by
 have h1:=h.rd (Wf_append hw (mk80_wf hn)) (o:=0) (n:=n) (cap:=n+80) (by omega) (by rw [List.length_append,mk80_len];omega) (by rw [len_maxLen];omega)
 rwa [List.drop_zero,List.take_left' hl] at h1
theorem room_rdf {w:World}{g n:Nat}{ys:List Nat}(h:Bk w g 24 ((ys++mk80 n).map W64)) (hl:ys.length=n) (hw:Wf ys) (hn:n≤1099511627776):Rd w (some ⟨g,0,none⟩) (n+80) (n+80) (ys++mk80 n):=by
 have h1:=h.rd (Wf_append hw (mk80_wf hn)) (o:=0) (n:=n+80) (cap:=n+80) (by omega) (by rw [List.length_append,mk80_len];omega) (by rw [len_maxLen];omega)
 rwa [List.drop_zero,List.take_of_length_le (by rw [List.length_append,mk80_len];omega)] at h1
theorem Al1.updT {w w':World}{lb i j g:Nat}{ls:List Lst}{T:TypeId}{us:List Value}(h:Al1 w lb ls i j) (hb:Bk w g T us) (hT:24≠T) (u:Upd g w w'):Al1 w' lb ls i j:=⟨h.dis,fun a ha=>by
 obtain⟨xs,h1,h2⟩:=h.own a ha
 exact⟨xs,h1.updT hb hT u,h2⟩⟩
theorem Al0.ext {w w':World}{lb:Nat}{ls:List Lst}(h:Al0 w lb ls) (e:Ext w w'):Al0 w' lb ls:=Al1.ext h e
theorem Al0.updT {w w':World}{lb g:Nat}{ls:List Lst}{T:TypeId}{us:List Value}(h:Al0 w lb ls) (hb:Bk w g T us) (hT:24≠T) (u:Upd g w w'):Al0 w' lb ls:=Al1.updT h hb hT u
def RM (b:Nat) (xs:List Nat) (v:Value) (w:World):Prop:=∃g,v= .slice (some ⟨g,0,none⟩) (xs.length+80) (xs.length+80)∧b≤g∧Bk w g 24 ((xs++mk80 xs.length).map W64)
set_option maxHeartbeats 4000000 in
theorem g_Roomy {w:World}{A:Option Addr}{ac:Nat}{xs:List Nat}(hx:Rd w A xs.length ac xs) (hal:xs.length≤1099511627000):
    Calls Try.prog 33 #[.slice A xs.length ac] w (Gv w (RM w.heap.size xs)):=by
 refine sx_enter Try.func33 rfl (n:=33) rfl (bq rfl) (args:= [.slice A xs.length ac]) (cw_keep [(0,.slice A xs.length ac)] ⟨rfl,trivial⟩ (sr (mv 1 rfl (ne_ (sr (mv 1 rfl (pu (v:= .int .i64 ((xs.length:Nat):Int)) rfl (by kernel_rfl) (wl_ar rfl rfl rfl ((xs.length+80:Nat):Int) (ai_add (a:=xs.length) (b:=80) rfl rfl (by omega)) (by decide) (wl_make rfl (k:=xs.length+80) rfl rfl rfl un_u64 info64 rfl (by decide) (by omega) (by decide) fun g1 v2 hg3 hb4 e5=>?_)))))))))
 rw [replicate_W64] at hb4
 have ge6:w.heap.size≤g1:=by rw [←hg3];exact (Ext.refl w).size
 have ne8:0<ac→∀a,A=some a→a.block≠g1:=fun hc a ha=>by have:=(hx).rv.blk a ha hc;omega
 clear hg3
 have hw1:=(Ext.refl w).trans e5
 refine mv 1 rfl (ne_ (cw_seq (sr (mv 1 rfl (ne_ (cw_block ?_))))))
 refine cw_loop (T:=World×Nat×List Nat)
  (fun⟨wr,i,l⟩=> [(0,.slice A xs.length ac),(3,.slice (some ⟨g1,0,none⟩) (xs.length+80) (xs.length+80)),(4,.int .i64 ((i:Nat):Int))])
  (fun⟨wr,i,l⟩=>wr)
  (fun⟨wr,i,l⟩=>(Ext w wr)∧(Bk wr g1 24 (l.map W64))∧(l.length=xs.length+80)∧(i≤xs.length+80)∧(l.take i=(room xs).take i)∧(Rd wr A xs.length ac xs))
  (fun⟨wr,i,l⟩=>xs.length+80-i)
  (⟨v2,0,_⟩:World×Nat×List Nat) ⟨hw1,hb4,(List.length_replicate (n:=xs.length+80) (a:=0)),(Nat.zero_le _),(by rw [List.take_zero,List.take_zero]),(hx.ext e5)⟩ rfl ⟨rfl,rfl,rfl,trivial⟩ ?_
 rintro⟨wr,i,l⟩ ⟨hw1,hb,hl,hi,hv,rl0⟩
 refine cw_re [(0,.slice A xs.length ac),(3,.slice (some ⟨g1,0,none⟩) (xs.length+80) (xs.length+80)),(4,.int .i64 ((i:Nat):Int))] wr rfl ⟨rfl,rfl,rfl,trivial⟩ (cw_seq (cw_seq ?_))
 by_cases hi80:i<xs.length+80
 · 
  refine cw_region (mv 2 rfl (pu (v:= .int .i64 (((xs.length+80):Nat):Int)) rfl (by kernel_rfl) (wl_cmp rfl rfl rfl true (cb_lt_t (a:=i) (b:=xs.length+80) rfl rfl (by omega)) (by decide) (ne_ (cw_true rfl (cw_skip (eo_then (cw_seq (cw_block (cw_seq ?_))))))))))
  by_cases hilt:i<xs.length
  · 
   refine cw_region (mv 2 rfl (pu (v:= .int .i64 ((xs.length:Nat):Int)) rfl (by kernel_rfl) (wl_cmp rfl rfl rfl true (cb_lt_t (a:=i) (b:=xs.length) rfl rfl (by omega)) (by decide) (ne_ (cw_true rfl ?_)))))
   have hx64:xs.getD i 0≤18446744073709551615:=by have:=Wf_getD hx.wf i;rw [WB_def] at this;omega
   refine cw_region (mv 4 rfl ?_)
   obtain⟨p9,hp9,hc9,hv9⟩:=(rl0).at (i:=i) (by omega)
   refine wl_idx rfl rfl rfl un_u64 sz_u64 i rfl (by omega) p9 hp9 (by decide) (wl_load rfl rfl (load_cell1 ag_u64 hc9) (by decide) (wl_idx rfl rfl rfl un_u64 sz_u64 i rfl (by omega) ⟨g1,i,none⟩ (arr_at _ _) (by decide) ?_))
   have hb11:=hb
   refine wl_stored1 rfl rfl rfl sz_u64 rfl hb11 (len_map (by rw [hl];omega)) rfl ((l.set i (xs.getD i 0)).map W64) (map_W64_set _ _ _) fun v10 hb12 u13 hs14=>?_
   have hw2:=u13.ext hw1 ge6
   refine wl_nil (eo_block_normal (eo_then (cw_region (mv 1 rfl (wl_ar rfl rfl rfl ((i+1:Nat):Int) (ai_add (a:=i) (b:=1) rfl rfl (by omega)) (by decide) (mv 1 rfl (wl_nil (eo_round (⟨v10,i+1,l.set i (xs.getD i 0)⟩:World×Nat×List Nat) ⟨hw2,hb12,(by rw [List.length_set];exact hl),(by omega),(by have h:=room_step hl hi80 hv;rw [room_low hilt] at h;exact h),(Rd.updL rl0 u13 ne8)⟩ (show xs.length+80-(i+1)<xs.length+80-i by omega) rfl ⟨rfl,rfl,rfl,trivial⟩))))))))
  · 
   refine cw_region (mv 2 rfl (pu (v:= .int .i64 ((xs.length:Nat):Int)) rfl (by kernel_rfl) (wl_cmp rfl rfl rfl false (cb_lt_f (a:=i) (b:=xs.length) rfl rfl (by omega)) (by decide) (ne_ (cw_false rfl (cw_region (mv 3 rfl (wl_pureE rfl rfl (v:= .int .u64 (IntKind.u64.wrap ((i:Nat):Int))) (v':= .int .u64 ((i:Nat):Int)) (by decide) (by kernel_rfl) (cv_u64 (by first | omega | exact hle64)) (wl_ar rfl rfl rfl ((6510516211317473280+i:Nat):Int) (au_add (a:=6510516211317473280) (b:=i) rfl rfl (by omega)) (by decide) (wl_idx rfl rfl rfl un_u64 sz_u64 i rfl (by omega) ⟨g1,i,none⟩ (arr_at _ _) (by decide) ?_))))))))))
   have hb16:=hb
   refine wl_stored1 rfl rfl rfl sz_u64 rfl hb16 (len_map (by rw [hl];omega)) rfl ((l.set i (6510516211317473280+i)).map W64) (map_W64_set _ _ _) fun v15 hb17 u18 hs19=>?_
   have hw2:=u18.ext hw1 ge6
   refine wl_nil (eo_block_normal (eo_then (cw_region (mv 1 rfl (wl_ar rfl rfl rfl ((i+1:Nat):Int) (ai_add (a:=i) (b:=1) rfl rfl (by omega)) (by decide) (mv 1 rfl (wl_nil (eo_round (⟨v15,i+1,l.set i (6510516211317473280+i)⟩:World×Nat×List Nat) ⟨hw2,hb17,(by rw [List.length_set];exact hl),(by omega),(by have h:=room_step hl hi80 hv;rw [room_high (by omega) hi80] at h;exact h),(Rd.updL rl0 u18 ne8)⟩ (show xs.length+80-(i+1)<xs.length+80-i by omega) rfl ⟨rfl,rfl,rfl,trivial⟩))))))))
 · 
  have hie:i=xs.length+80:=by omega
  have hlr:l=room xs:=by rw [hie,List.take_of_length_le (by omega),List.take_of_length_le (by rw [room_len];exact Nat.le_refl _)] at hv;exact hv
  refine cw_region (mv 2 rfl (pu (v:= .int .i64 (((xs.length+80):Nat):Int)) rfl (by kernel_rfl) (wl_cmp rfl rfl rfl false (cb_lt_f (a:=i) (b:=xs.length+80) rfl rfl (by omega)) (by decide) (ne_ (cw_false rfl (cw_exit (eo_thenX (eo_loopX (eo_block_here (eo_then (sr (mv 2 rfl (wl_nil ?_)))))))))))))
  refine eo_then (cw_ret (eo_ret [.slice (some ⟨g1,0,none⟩) (xs.length+80) (xs.length+80)] rfl ⟨rfl,trivial⟩ (⟨_,rfl,⟨g1,rfl,ge6,?_⟩,hw1⟩)))
  have h:=hb
  rw [hlr] at h
  exact h
set_option maxHeartbeats 4000000 in
theorem g_Kept {w:World}{L A:Option Addr}{lc ac:Nat}{xs:List Nat}(hr:Rd w L (xs.length+80) lc (room xs)) (hx:Rd w A xs.length ac xs) (hal:xs.length≤1099511627000):
    Calls Try.prog 36 #[.slice L (xs.length+80) lc,.slice A xs.length ac] w (Gv w (Is (.bool true))):=by
 refine sx_enter Try.func36 rfl (n:=47) rfl (bq rfl) (args:= [.slice L (xs.length+80) lc,.slice A xs.length ac]) (cw_keep [(0,.slice L (xs.length+80) lc),(1,.slice A xs.length ac)] ⟨rfl,rfl,trivial⟩ (sr (mv 1 rfl (ne_ (cw_seq (sr (mv 1 rfl (pu (v:= .int .i64 (((xs.length+80):Nat):Int)) rfl (by kernel_rfl) (mv 1 rfl (pu (v:= .int .i64 ((xs.length:Nat):Int)) rfl (by kernel_rfl) (wl_ar rfl rfl rfl ((xs.length+80:Nat):Int) (ai_add (a:=xs.length) (b:=80) rfl rfl (by omega)) (by decide) (wl_cmp rfl rfl rfl false (cb_ne_f (a:=xs.length+80) (b:=xs.length+80) rfl rfl (by omega)) (by decide) (wl_nil ?_)))))))))))))
 refine eo_then (cw_false rfl (cw_skip (eo_then (cw_seq (sr (mv 1 rfl (ne_ (cw_block ?_))))))))
 refine cw_loop (T:=World×Nat)
  (fun⟨wr,i⟩=> [(0,.slice L (xs.length+80) lc),(1,.slice A xs.length ac),(5,.int .i64 ((i:Nat):Int))])
  (fun⟨wr,i⟩=>wr)
  (fun⟨wr,i⟩=>(Ext w wr)∧(i≤xs.length+80)∧(Rd wr L (xs.length+80) lc (room xs))∧(Rd wr A xs.length ac xs))
  (fun⟨wr,i⟩=>xs.length+80-i)
  (⟨w,0⟩:World×Nat) ⟨(Ext.refl w),(Nat.zero_le _),hr,hx⟩ rfl ⟨rfl,rfl,rfl,trivial⟩ ?_
 rintro⟨wr,i⟩ ⟨hw1,hi,rl0,rl1⟩
 refine cw_re [(0,.slice L (xs.length+80) lc),(1,.slice A xs.length ac),(5,.int .i64 ((i:Nat):Int))] wr rfl ⟨rfl,rfl,rfl,trivial⟩ (cw_seq (cw_seq ?_))
 by_cases hi80:i<xs.length+80
 · 
  refine cw_region (mv 2 rfl (pu (v:= .int .i64 (((xs.length+80):Nat):Int)) rfl (by kernel_rfl) (wl_cmp rfl rfl rfl true (cb_lt_t (a:=i) (b:=xs.length+80) rfl rfl (by omega)) (by decide) (ne_ (cw_true rfl (cw_skip (eo_then (cw_seq (cw_block (cw_seq (cw_seq ?_)))))))))))
  by_cases hilt:i<xs.length
  · 
   have hro:=room_low hilt
   obtain⟨p1,hp1,hc1,hv1⟩:=(rl0).at (i:=i) (by omega)
   obtain⟨p2,hp2,hc2,hv2⟩:=(rl1).at (i:=i) (by omega)
   refine cw_draw mix 15 [] [Is (.int .i64 ((i:Nat):Int)),Is (.slice A xs.length ac),Is (.int .i64 ((xs.length:Nat):Int)),Is (.bool true),Is (.bool true),Is (.slice L (xs.length+80) lc),Is (.int .i64 ((i:Nat):Int)),Is (.pointer (some p1)),Is (.int .u64 (((room xs).getD i 0:Nat):Int)),Is (.slice A xs.length ac),Is (.int .i64 ((i:Nat):Int)),Is (.pointer (some p2)),Is (.int .u64 ((xs.getD i 0:Nat):Int)),Is (.bool false),Is (.bool false)] [[],[],[1],[0,2],[3],[4],[4],[4,5,6],[4,7],[4],[4],[4,9,10],[4,11],[4,8,12],[4,13]] [[],[],[1],[0,1,2],[0,1,2,3],[0,1,2,3,4],[0,1,2,3,4],[0,1,2,3,4,5,6],[0,1,2,3,4,5,6,7],[0,1,2,3,4],[0,1,2,3,4],[0,1,2,3,4,9,10],[0,1,2,3,4,9,10,11],[0,1,2,3,4,5,6,7,8,9,10,11,12],[0,1,2,3,4,5,6,7,8,9,10,11,12,13]] rfl
    (obs_cons rfl rfl (hob rfl rfl ?_) (obs_cons rfl rfl (hob rfl rfl ?_) (obs_cons rfl rfl (hob rfl rfl ?_) (obs_cons rfl rfl (hob rfl rfl ?_) (obs_cons rfl rfl (hob rfl rfl ?_) (obs_cons rfl rfl (hob rfl rfl ?_) (obs_cons rfl rfl (hob rfl rfl ?_) (obs_cons rfl rfl (hob rfl rfl ?_) (obs_cons rfl rfl (hob rfl rfl ?_) (obs_cons rfl rfl (hob rfl rfl ?_) (obs_cons rfl rfl (hob rfl rfl ?_) (obs_cons rfl rfl (hob rfl rfl ?_) (obs_cons rfl rfl (hob rfl rfl ?_) (obs_cons rfl rfl (hob rfl rfl ?_) (obs_cons rfl rfl (hob rfl rfl ?_) obs_nil))))))))))))))) ?_
   · 
    exact fun _ _=>deps_nil (mv 1 rfl (pi_done rfl (Ext.refl _) rfl))
   · 
    exact fun _ _=>deps_nil (mv 1 rfl (pi_done rfl (Ext.refl _) rfl))
   · 
    exact fun _ _=>dk rfl rfl (deps_nil (pu (v:= .int .i64 ((xs.length:Nat):Int)) rfl (by kernel_rfl) (pi_done rfl (Ext.refl _) rfl)))
   · 
    exact fun _ _=>dk rfl rfl (dk rfl rfl (deps_nil (wl_cmp rfl rfl rfl true (cb_lt_t (a:=i) (b:=xs.length) rfl rfl (by omega)) (by decide) (pi_done rfl (Ext.refl _) rfl))))
   · 
    exact fun _ _=>dk rfl rfl (deps_nil (mv 1 rfl (pi_done rfl (Ext.refl _) rfl)))
   · 
    exact fun _ _=>dk rfl rfl (deps_nil (mv 1 rfl (pi_done rfl (Ext.refl _) rfl)))
   · 
    exact fun _ _=>dk rfl rfl (deps_nil (mv 1 rfl (pi_done rfl (Ext.refl _) rfl)))
   · 
    exact fun _ _=>dk rfl rfl (dk rfl rfl (dk rfl rfl (deps_nil (wl_idx rfl rfl rfl un_u64 sz_u64 i rfl (by omega) p1 hp1 (by decide) (pi_done rfl (Ext.refl _) rfl)))))
   · 
    exact fun _ e65=>dk rfl rfl (dk rfl rfl (deps_nil (wl_load rfl rfl (load_cell1 ag_u64 (e65.cell hc1)) (by decide) (pi_done rfl (Ext.refl _) rfl))))
   · 
    exact fun _ _=>dk rfl rfl (deps_nil (mv 1 rfl (pi_done rfl (Ext.refl _) rfl)))
   · 
    exact fun _ _=>dk rfl rfl (deps_nil (mv 1 rfl (pi_done rfl (Ext.refl _) rfl)))
   · 
    exact fun _ _=>dk rfl rfl (dk rfl rfl (dk rfl rfl (deps_nil (wl_idx rfl rfl rfl un_u64 sz_u64 i rfl (by omega) p2 hp2 (by decide) (pi_done rfl (Ext.refl _) rfl)))))
   · 
    exact fun _ e108=>dk rfl rfl (dk rfl rfl (deps_nil (wl_load rfl rfl (load_cell1 ag_u64 (e108.cell hc2)) (by decide) (pi_done rfl (Ext.refl _) rfl))))
   · 
    exact fun _ _=>dk rfl rfl (dk rfl rfl (dk rfl rfl (deps_nil (wl_cmp rfl rfl rfl false (cb_ne_f (a:=(room xs).getD i 0) (b:=xs.getD i 0) rfl rfl (by omega)) (by decide) (pi_done rfl (Ext.refl _) rfl)))))
   · 
    exact fun _ _=>dk rfl rfl (dk rfl rfl (deps_nil (pu (v:= .bool false) rfl (by kernel_rfl) (pi_done rfl (Ext.refl _) rfl))))
   · 
    intro v148 e149
    have hw2:=hw1.trans e149
    refine dk rfl rfl (dk rfl rfl (dk rfl rfl (dk rfl rfl (dk rfl rfl (dk rfl rfl (dk rfl rfl (dk rfl rfl (dk rfl rfl (dk rfl rfl (dk rfl rfl (dk rfl rfl (dk rfl rfl (dk rfl rfl ?_)))))))))))))
    refine dk rfl rfl (deps_nil (wl_nil (eo_np (eo_then (cw_false rfl (cw_skip (eo_then (sr (mv 2 rfl (pu (v:= .int .i64 ((xs.length:Nat):Int)) rfl (by kernel_rfl) (wl_cmp rfl rfl rfl false (cb_ge_f (a:=i) (b:=xs.length) rfl rfl (by omega)) (by decide) (mv 9 rfl (pu (v:= .bool false) rfl (by kernel_rfl) ?_)))))))))))))
    refine ne_ (cw_false rfl (cw_skip (eo_block_normal (eo_then (cw_region (mv 1 rfl (wl_ar rfl rfl rfl ((i+1:Nat):Int) (ai_add (a:=i) (b:=1) rfl rfl (by omega)) (by decide) (mv 1 rfl (wl_nil (eo_round (⟨v148,i+1⟩:World×Nat) ⟨hw2,(by omega),(rl0.ext e149),(rl1.ext e149)⟩ (show xs.length+80-(i+1)<xs.length+80-i by omega) rfl ⟨rfl,rfl,rfl,trivial⟩))))))))))
  · 
   have hro:(room xs).getD i 0=6510516211317473280+i:=room_high (by omega) hi80
   refine cw_draw mix 15 [] [Is (.int .i64 ((i:Nat):Int)),Is (.slice A xs.length ac),Is (.int .i64 ((xs.length:Nat):Int)),Is (.bool false),Is (.bool false),Is (undef),Is (undef),Is (undef),Is (undef),Is (undef),Is (undef),Is (undef),Is (undef),Is (undef),Is (.bool false)] [[],[],[1],[0,2],[3],[4],[4],[4,5,6],[4,7],[4],[4],[4,9,10],[4,11],[4,8,12],[4,13]] [[],[],[1],[0,1,2],[0,1,2,3],[0,1,2,3,4],[0,1,2,3,4],[0,1,2,3,4,5,6],[0,1,2,3,4,5,6,7],[0,1,2,3,4],[0,1,2,3,4],[0,1,2,3,4,9,10],[0,1,2,3,4,9,10,11],[0,1,2,3,4,5,6,7,8,9,10,11,12],[0,1,2,3,4,5,6,7,8,9,10,11,12,13]] rfl
    (obs_cons rfl rfl (hob rfl rfl ?_) (obs_cons rfl rfl (hob rfl rfl ?_) (obs_cons rfl rfl (hob rfl rfl ?_) (obs_cons rfl rfl (hob rfl rfl ?_) (obs_cons rfl rfl (hob rfl rfl ?_) (obs_cons rfl rfl (hob rfl rfl ?_) (obs_cons rfl rfl (hob rfl rfl ?_) (obs_cons rfl rfl (hob rfl rfl ?_) (obs_cons rfl rfl (hob rfl rfl ?_) (obs_cons rfl rfl (hob rfl rfl ?_) (obs_cons rfl rfl (hob rfl rfl ?_) (obs_cons rfl rfl (hob rfl rfl ?_) (obs_cons rfl rfl (hob rfl rfl ?_) (obs_cons rfl rfl (hob rfl rfl ?_) (obs_cons rfl rfl (hob rfl rfl ?_) obs_nil))))))))))))))) ?_
   · 
    exact fun _ _=>deps_nil (mv 1 rfl (pi_done rfl (Ext.refl _) rfl))
   · 
    exact fun _ _=>deps_nil (mv 1 rfl (pi_done rfl (Ext.refl _) rfl))
   · 
    exact fun _ _=>dk rfl rfl (deps_nil (pu (v:= .int .i64 ((xs.length:Nat):Int)) rfl (by kernel_rfl) (pi_done rfl (Ext.refl _) rfl)))
   · 
    exact fun _ _=>dk rfl rfl (dk rfl rfl (deps_nil (wl_cmp rfl rfl rfl false (cb_lt_f (a:=i) (b:=xs.length) rfl rfl (by omega)) (by decide) (pi_done rfl (Ext.refl _) rfl))))
   · 
    exact fun _ _=>dk rfl rfl (deps_nil (mv 1 rfl (pi_done rfl (Ext.refl _) rfl)))
   · 
    exact fun _ _=>dk rfl rfl (deps_nil (mv 1 rfl (pi_done rfl (Ext.refl _) rfl)))
   · 
    exact fun _ _=>dk rfl rfl (deps_nil (mv 1 rfl (pi_done rfl (Ext.refl _) rfl)))
   · 
    exact fun _ _=>dk rfl rfl (dk rfl rfl (dk rfl rfl (deps_nil (mv 1 rfl (pi_done rfl (Ext.refl _) rfl)))))
   · 
    exact fun _ _=>dk rfl rfl (dk rfl rfl (deps_nil (mv 1 rfl (pi_done rfl (Ext.refl _) rfl))))
   · 
    exact fun _ _=>dk rfl rfl (deps_nil (mv 1 rfl (pi_done rfl (Ext.refl _) rfl)))
   · 
    exact fun _ _=>dk rfl rfl (deps_nil (mv 1 rfl (pi_done rfl (Ext.refl _) rfl)))
   · 
    exact fun _ _=>dk rfl rfl (dk rfl rfl (dk rfl rfl (deps_nil (mv 1 rfl (pi_done rfl (Ext.refl _) rfl)))))
   · 
    exact fun _ _=>dk rfl rfl (dk rfl rfl (deps_nil (mv 1 rfl (pi_done rfl (Ext.refl _) rfl))))
   · 
    exact fun _ _=>dk rfl rfl (dk rfl rfl (dk rfl rfl (deps_nil (mv 1 rfl (pi_done rfl (Ext.refl _) rfl)))))
   · 
    exact fun _ _=>dk rfl rfl (dk rfl rfl (deps_nil (pu (v:= .bool false) rfl (by kernel_rfl) (pi_done rfl (Ext.refl _) rfl))))
   · 
    intro v370 e371
    have hw2:=hw1.trans e371
    refine dk rfl rfl (dk rfl rfl (dk rfl rfl (dk rfl rfl (dk rfl rfl (dk rfl rfl (dk rfl rfl (dk rfl rfl (dk rfl rfl (dk rfl rfl (dk rfl rfl (dk rfl rfl (dk rfl rfl (dk rfl rfl ?_)))))))))))))
    refine dk rfl rfl (deps_nil (wl_nil (eo_np (eo_then (cw_false rfl (cw_skip (eo_then (sr (mv 2 rfl (pu (v:= .int .i64 ((xs.length:Nat):Int)) rfl (by kernel_rfl) (wl_cmp rfl rfl rfl true (cb_ge_t (a:=i) (b:=xs.length) rfl rfl (by omega)) (by decide) (mv 3 rfl ?_))))))))))))
    obtain⟨p447,hp447,hc447,hv447⟩:=((rl0.ext e371)).at (i:=i) (by omega)
    refine wl_idx rfl rfl rfl un_u64 sz_u64 i rfl (by omega) p447 hp447 (by decide) (wl_load rfl rfl (load_cell1 ag_u64 hc447) (by decide) (mv 1 rfl (wl_pureE rfl rfl (v:= .int .u64 (IntKind.u64.wrap ((i:Nat):Int))) (v':= .int .u64 ((i:Nat):Int)) (by decide) (by kernel_rfl) (cv_u64 (by first | omega | exact hle64)) (wl_ar rfl rfl rfl ((6510516211317473280+i:Nat):Int) (au_add (a:=6510516211317473280) (b:=i) rfl rfl (by omega)) (by decide) (wl_cmp rfl rfl rfl false (cb_ne_f (a:=(room xs).getD i 0) (b:=6510516211317473280+i) rfl rfl (by omega)) (by decide) (pu (v:= .bool false) rfl (by kernel_rfl) (ne_ (cw_false rfl (cw_skip (eo_block_normal (eo_then (cw_region (mv 1 rfl ?_)))))))))))))
    refine wl_ar rfl rfl rfl ((i+1:Nat):Int) (ai_add (a:=i) (b:=1) rfl rfl (by omega)) (by decide) (mv 1 rfl (wl_nil (eo_round (⟨v370,i+1⟩:World×Nat) ⟨hw2,(by omega),(rl0.ext e371),(rl1.ext e371)⟩ (show xs.length+80-(i+1)<xs.length+80-i by omega) rfl ⟨rfl,rfl,rfl,trivial⟩)))
 · 
  refine cw_region (mv 2 rfl (pu (v:= .int .i64 (((xs.length+80):Nat):Int)) rfl (by kernel_rfl) (wl_cmp rfl rfl rfl false (cb_lt_f (a:=i) (b:=xs.length+80) rfl rfl (by omega)) (by decide) (ne_ (cw_false rfl (cw_exit (eo_thenX (eo_loopX (eo_block_here (eo_then (sr (mv 1 rfl (wl_nil ?_)))))))))))))
  refine eo_then (cw_ret (eo_ret [.bool true] rfl ⟨rfl,trivial⟩ ?_))
  exact⟨_,rfl,rfl,hw1⟩
def AnsP3 (b:Nat) (t:Ans3) (v:Value) (w:World):Prop:=∃A n c B m d,v= .agg #[.slice A n c,.slice B m d,.int .u64 ((t.W:Nat):Int),.int .i64 t.N,.int .i64 t.E]∧n=(wd t.Q).length∧Own w b 24 1 A n c ((wd t.Q).map W64)∧m=(wd t.R).length∧Own w b 24 1 B m d ((wd t.R).map W64)∧
 (∀p q,A=some p→B=some q→p.block≠q.block)∧(wd t.Q).length≤68719476735∧(wd t.R).length≤68719476735
def QR3 (b Q R:Nat) (v:Value) (w:World):Prop:=∃A n c B m d,v= .tuple #[.slice A n c,.slice B m d]∧n=(wd Q).length∧Own w b 24 1 A n c ((wd Q).map W64)∧m=(wd R).length∧Own w b 24 1 B m d ((wd R).map W64)∧(∀p q,A=some p→B=some q→p.block≠q.block)
def QRE3 (b Q R:Nat) (er:Int) (v:Value) (w:World):Prop:=∃A n c B m d,v= .tuple #[.slice A n c,.slice B m d,.int .i64 er]∧n=(wd Q).length∧Own w b 24 1 A n c ((wd Q).map W64)∧m=(wd R).length∧Own w b 24 1 B m d ((wd R).map W64)∧(∀p q,A=some p→B=some q→p.block≠q.block)
section
variable {w:World}{A B:Option Addr}{n cap n' cap' X Y b:Nat}(hb:b≤w.heap.size)
include hb
theorem j3_DivModA (hx:Wi w A n cap X) (hl:n≤68719476735) (hy:Wi w B n' cap' Y) (hl':n'≤68719476735):Calls Try.prog 57 #[.slice A n cap,.slice B n' cap'] w (Gv w (QRE3 b (X/Y) (rm3 X Y) (er3 Y))):=by
 obtain⟨xs,h1,rfl⟩:=hx
 obtain⟨ys,h2,rfl⟩:=hy
 by_cases h0:nv ys=0
 ·refine (divnat_DivMod_bad (A:=A) (n:=n) (cap:=cap) h2 (by omega) h0).mono ?_
  rintro e w' ⟨rfl,hx⟩
  unfold rm3 er3
  rw [if_pos h0,if_pos h0,h0,Nat.div_zero]
  exact⟨_,rfl,⟨_,_,_,_,_,_,rfl,rfl,Own.nil _ _ _ _,rfl,Own.nil _ _ _ _,fun _ _ h=>by cases h⟩,hx⟩
 ·refine (divnat_DivModA h1 (by omega) h2 (by omega) h0).mono ?_
  rintro e w' ⟨A,n,c,B,m,d,rfl,h1,_,h3,h4,_,h6,hx,hap⟩
  unfold rm3 er3
  rw [if_neg h0,if_neg h0]
  exact⟨_,rfl,⟨_,_,_,_,_,_,rfl,h1.out,h3.mono hb,h4.out,h6.mono hb,hap⟩,hx⟩
theorem j3_SqrtA (hx:Wi w A n cap X) (hl:n≤67108864):Calls Try.prog 68 #[.slice A n cap] w (Gv w (QR3 b (rt3 X 2) (X-rt3 X 2*rt3 X 2))):=by
 obtain⟨xs,h1,rfl⟩:=hx
 refine (divnat_SqrtA h1 hl).mono ?_
 rintro e w' ⟨r,hr,A,n,c,B,m,d,rfl,g1,_,g3,g4,_,g6,hx,hap⟩
 rw [rt3_eq hr.out]
 exact⟨_,rfl,⟨_,_,_,_,_,_,rfl,g1.out,g3.mono hb,g4.out,g6.mono hb,hap⟩,hx⟩
end
theorem AnsP3.r {b:Nat}{t:Ans3}{v:Value}{w:World}(h:AnsP3 b t v w):AnsR3 b t v w:=by
 obtain⟨A,n,c,B,m,d,rfl,h1,h2,h3,h4,_,h6,h7⟩:=h
 exact⟨_,_,rfl,⟨_,_,_,rfl,h1,h2⟩,⟨_,_,_,rfl,h3,h4⟩,h6,h7⟩
set_option maxHeartbeats 4000000 in
theorem g_playsA3_1 {w:World}{b:Nat}(hb:b≤w.heap.size){A:Option Addr}{n cap X:Nat}(hx:Wi w A n cap X) (hl:n≤1048576){B:Option Addr}{n' cap' Y:Nat}(hy:Wi w B n' cap' Y) (hl':n'≤1048576){v:Nat}{kk:Int}(hv:v≤18446744073709551615) (hkk:kk≤9223372036854775807):
    Calls Try.prog 35 #[.agg #[.int .i64 1,.slice A n cap,.slice B n' cap',.int .u64 ((v:Nat):Int),.int .i64 kk]] w (Gv w (AnsP3 b (spec3 1 kk X Y v))):=by
 have hXl:(wd X).length≤68719476735:=Nat.le_trans hx.len (lx_ hl rfl)
 have hYl:(wd Y).length≤68719476735:=Nat.le_trans hy.len (Nat.le_trans hl' (by decide))
 refine sx_enter Try.func35 rfl (n:=91) rfl (bq rfl) (args:= [.agg #[.int .i64 1,.slice A n cap,.slice B n' cap',.int .u64 ((v:Nat):Int),.int .i64 kk]]) (cw_keep [(0,.agg #[.int .i64 1,.slice A n cap,.slice B n' cap',.int .u64 ((v:Nat):Int),.int .i64 kk])] ⟨rfl,trivial⟩ (sr (bx [.int .i64 1,.slice A n cap,.slice B n' cap',.int .u64 ((v:Nat):Int),.int .i64 kk] (Ext.refl w) rfl rfl rfl fun g1 v2 hb4 ge5 e3 hw1=>(alq [S0,S0,.int .u64 0,I0,I0] hw1 hb4.lt (fun _=>by kernel_rfl) rfl fun g6 v7 hb9 ge10 q11 e8 hw2=>(ne_ (sr (alq [S0,S0,.int .u64 0,I0,I0] hw2 hb9.lt (fun _=>by kernel_rfl) rfl fun g12 v13 hb15 ge16 q17 e14 hw3=>(ne_ (cw_seq (sr (pf g1 0 rfl (by kernel_rfl) (wl_load rfl rfl (load_cell (fun _=>by kernel_rfl) (hb4.ext (e8.trans e14)) rfl) (by decide) (wl_nil ?_)))))))))))))
 refine eo_then (cw_block (sr (wl_cmp rfl rfl rfl true (by decide) (by decide) (mv 1 rfl (ne_ (cw_true rfl (cw_region (pf g1 1 rfl (by kernel_rfl) (wl_load rfl rfl (load_cell (fun _=>by kernel_rfl) (hb4.ext (e8.trans e14)) rfl) (by decide) (pf g1 3 rfl (by kernel_rfl) (wl_load rfl rfl (load_cell (fun _=>by kernel_rfl) (hb4.ext (e8.trans e14)) rfl) (by decide) (cl (vs:= [.slice A n cap,.int .u64 ((v:Nat):Int)]) hw3 (j3_Word hw3.size (hx.ext hw3) (lx_ hl rfl) hv) rfl (by kernel_rfl) fun xr20 v18 r20 e19 hw4=>?_))))))))))))
 obtain⟨_,_,_,rfl,⟨A22,n22,c22,rfl,j22,o22⟩,rfl,rfl⟩:=r20
 refine mv 1 rfl (pu (v:= .slice A22 n22 c22) rfl (by kernel_rfl) (pu (v:= .int .u64 ((rm3 X v:Nat):Int)) rfl (by kernel_rfl) (pu (v:= .int .i64 (er3 v)) rfl (by kernel_rfl) (pf g12 0 rfl (by kernel_rfl) ?_))))
 have hb24:=(hb15.ext e19)
 refine wl_stored1 rfl rfl rfl (fun _=>by kernel_rfl) rfl hb24 (bq rfl) rfl [.slice A22 n22 c22,S0,.int .u64 0,I0,I0] rfl fun v23 hb25 u26 hs27=>?_
 have hw5:=u26.ext hw4 ge16
 refine pf g12 2 rfl (by kernel_rfl) (wl_stored1 rfl rfl rfl (fun _=>by kernel_rfl) rfl hb25 (bq rfl) rfl [.slice A22 n22 c22,S0,.int .u64 ((rm3 X v:Nat):Int),I0,I0] rfl fun v28 hb30 u31 hs32=>?_)
 have hw6:=u31.ext hw5 ge16
 refine pf g12 4 rfl (by kernel_rfl) (wl_stored1 rfl rfl rfl (fun _=>by kernel_rfl) rfl hb30 (bq rfl) rfl [.slice A22 n22 c22,S0,.int .u64 ((rm3 X v:Nat):Int),I0,.int .i64 (er3 v)] rfl fun v33 hb35 u36 hs37=>?_)
 have hw7:=u36.ext hw6 ge16
 refine wl_nil (eo_block_normal (eo_then (sr (lo aggAns3 hb35 [.slice A22 n22 c22,S0,.int .u64 ((rm3 X v:Nat):Int),I0,.int .i64 (er3 v)] rfl rfl rfl ?_))))
 have hb39:=((((hb9.ext (e14.trans e19)).updN u26 (by omega)).updN u31 (by omega)).updN u36 (by omega))
 refine so aggAns3 hb39 [.slice A22 n22 c22,S0,.int .u64 ((rm3 X v:Nat):Int),I0,.int .i64 (er3 v)] hw7 ge10 rfl rfl rfl rfl fun v38 hb40 u41 hw8=>(ne_ (cw_ret (eo_ret [.agg #[.slice A22 n22 c22,S0,.int .u64 ((rm3 X v:Nat):Int),I0,.int .i64 (er3 v)]] rfl ⟨⟨_,rfl,load_agg aggAns3 hb40 [.slice A22 n22 c22,S0,.int .u64 ((rm3 X v:Nat):Int),I0,.int .i64 (er3 v)] rfl (bq rfl) rfl⟩,trivial⟩ ?_)))
 have hs:spec3 1 kk X Y v=(⟨X/v,0,rm3 X v,0,er3 v⟩:Ans3):=rfl
 rw [hs]
 exact⟨_,rfl,⟨_,_,_,_,_,_,rfl,j22,((((o22.updT hb24 (by decide) u26).updT hb25 (by decide) u31).updT hb30 (by decide) u36).updT hb39 (by decide) u41).mono hb,rfl,Own.nil _ _ _ _,(fun _ _ _ h=>by cases h),(len_d3 hXl),(show (wd 0).length≤68719476735 by decide)⟩,hw8⟩
set_option maxHeartbeats 4000000 in
theorem g_playsA3_2 {w:World}{b:Nat}(hb:b≤w.heap.size){A:Option Addr}{n cap X:Nat}(hx:Wi w A n cap X) (hl:n≤1048576){B:Option Addr}{n' cap' Y:Nat}(hy:Wi w B n' cap' Y) (hl':n'≤1048576){v:Nat}{kk:Int}(hv:v≤18446744073709551615) (hkk:kk≤9223372036854775807):
    Calls Try.prog 35 #[.agg #[.int .i64 2,.slice A n cap,.slice B n' cap',.int .u64 ((v:Nat):Int),.int .i64 kk]] w (Gv w (AnsP3 b (spec3 2 kk X Y v))):=by
 have hXl:(wd X).length≤68719476735:=Nat.le_trans hx.len (lx_ hl rfl)
 have hYl:(wd Y).length≤68719476735:=Nat.le_trans hy.len (Nat.le_trans hl' (by decide))
 refine sx_enter Try.func35 rfl (n:=91) rfl (bq rfl) (args:= [.agg #[.int .i64 2,.slice A n cap,.slice B n' cap',.int .u64 ((v:Nat):Int),.int .i64 kk]]) (cw_keep [(0,.agg #[.int .i64 2,.slice A n cap,.slice B n' cap',.int .u64 ((v:Nat):Int),.int .i64 kk])] ⟨rfl,trivial⟩ (sr (bx [.int .i64 2,.slice A n cap,.slice B n' cap',.int .u64 ((v:Nat):Int),.int .i64 kk] (Ext.refl w) rfl rfl rfl fun g1 v2 hb4 ge5 e3 hw1=>(alq [S0,S0,.int .u64 0,I0,I0] hw1 hb4.lt (fun _=>by kernel_rfl) rfl fun g6 v7 hb9 ge10 q11 e8 hw2=>(ne_ (sr (alq [S0,S0,.int .u64 0,I0,I0] hw2 hb9.lt (fun _=>by kernel_rfl) rfl fun g12 v13 hb15 ge16 q17 e14 hw3=>(ne_ (cw_seq (sr (pf g1 0 rfl (by kernel_rfl) (wl_load rfl rfl (load_cell (fun _=>by kernel_rfl) (hb4.ext (e8.trans e14)) rfl) (by decide) (wl_nil ?_)))))))))))))
 refine eo_then (cw_block (sr (wl_cmp rfl rfl rfl false (by decide) (by decide) (mv 1 rfl (ne_ (cw_false rfl (sr (wl_cmp rfl rfl rfl true (by decide) (by decide) (mv 1 rfl (ne_ (cw_true rfl (cw_region (pf g1 1 rfl (by kernel_rfl) ?_)))))))))))))
 refine wl_load rfl rfl (load_cell (fun _=>by kernel_rfl) (hb4.ext (e8.trans e14)) rfl) (by decide) (pf g1 2 rfl (by kernel_rfl) (wl_load rfl rfl (load_cell (fun _=>by kernel_rfl) (hb4.ext (e8.trans e14)) rfl) (by decide) (cl (vs:= [.slice A n cap,.slice B n' cap']) hw3 (j3_DivModA hw3.size (hx.ext hw3) (lx_ hl rfl) (hy.ext hw3) (Nat.le_trans hl' (by decide))) rfl (by kernel_rfl) fun xr20 v18 r20 e19 hw4=>?_)))
 obtain⟨A21,n21,c21,B21,m21,d21,rfl,j21,o21,i21,q21,ap21⟩:=r20
 refine mv 1 rfl (pu (v:= .slice A21 n21 c21) rfl (by kernel_rfl) (pu (v:= .slice B21 m21 d21) rfl (by kernel_rfl) (pu (v:= .int .i64 (er3 Y)) rfl (by kernel_rfl) (pf g12 0 rfl (by kernel_rfl) ?_))))
 have hb23:=(hb15.ext e19)
 refine wl_stored1 rfl rfl rfl (fun _=>by kernel_rfl) rfl hb23 (bq rfl) rfl [.slice A21 n21 c21,S0,.int .u64 0,I0,I0] rfl fun v22 hb24 u25 hs26=>?_
 have hw5:=u25.ext hw4 ge16
 refine pf g12 1 rfl (by kernel_rfl) (wl_stored1 rfl rfl rfl (fun _=>by kernel_rfl) rfl hb24 (bq rfl) rfl [.slice A21 n21 c21,.slice B21 m21 d21,.int .u64 0,I0,I0] rfl fun v27 hb29 u30 hs31=>?_)
 have hw6:=u30.ext hw5 ge16
 refine pf g12 4 rfl (by kernel_rfl) (wl_stored1 rfl rfl rfl (fun _=>by kernel_rfl) rfl hb29 (bq rfl) rfl [.slice A21 n21 c21,.slice B21 m21 d21,.int .u64 0,I0,.int .i64 (er3 Y)] rfl fun v32 hb34 u35 hs36=>?_)
 have hw7:=u35.ext hw6 ge16
 refine wl_nil (eo_block_normal (eo_then (sr (lo aggAns3 hb34 [.slice A21 n21 c21,.slice B21 m21 d21,.int .u64 0,I0,.int .i64 (er3 Y)] rfl rfl rfl ?_))))
 have hb38:=((((hb9.ext (e14.trans e19)).updN u25 (by omega)).updN u30 (by omega)).updN u35 (by omega))
 refine so aggAns3 hb38 [.slice A21 n21 c21,.slice B21 m21 d21,.int .u64 0,I0,.int .i64 (er3 Y)] hw7 ge10 rfl rfl rfl rfl fun v37 hb39 u40 hw8=>(ne_ (cw_ret (eo_ret [.agg #[.slice A21 n21 c21,.slice B21 m21 d21,.int .u64 0,I0,.int .i64 (er3 Y)]] rfl ⟨⟨_,rfl,load_agg aggAns3 hb39 [.slice A21 n21 c21,.slice B21 m21 d21,.int .u64 0,I0,.int .i64 (er3 Y)] rfl (bq rfl) rfl⟩,trivial⟩ ?_)))
 have hs:spec3 2 kk X Y v=(⟨X/Y,rm3 X Y,0,0,er3 Y⟩:Ans3):=rfl
 rw [hs]
 exact⟨_,rfl,⟨_,_,_,_,_,_,rfl,j21,((((o21.updT hb23 (by decide) u25).updT hb24 (by decide) u30).updT hb29 (by decide) u35).updT hb38 (by decide) u40).mono hb,i21,((((q21.updT hb23 (by decide) u25).updT hb24 (by decide) u30).updT hb29 (by decide) u35).updT hb38 (by decide) u40).mono hb,ap21,(len_d3 hXl),(len_rm3 hXl)⟩,hw8⟩
set_option maxHeartbeats 4000000 in
theorem g_playsA3_3 {w:World}{b:Nat}(hb:b≤w.heap.size){A:Option Addr}{n cap X:Nat}(hx:Wi w A n cap X) (hl:n≤1048576){B:Option Addr}{n' cap' Y:Nat}(hy:Wi w B n' cap' Y) (hl':n'≤1048576){v:Nat}{kk:Int}(hv:v≤18446744073709551615) (hkk:kk≤9223372036854775807):
    Calls Try.prog 35 #[.agg #[.int .i64 3,.slice A n cap,.slice B n' cap',.int .u64 ((v:Nat):Int),.int .i64 kk]] w (Gv w (AnsP3 b (spec3 3 kk X Y v))):=by
 have hXl:(wd X).length≤68719476735:=Nat.le_trans hx.len (lx_ hl rfl)
 have hYl:(wd Y).length≤68719476735:=Nat.le_trans hy.len (Nat.le_trans hl' (by decide))
 refine sx_enter Try.func35 rfl (n:=91) rfl (bq rfl) (args:= [.agg #[.int .i64 3,.slice A n cap,.slice B n' cap',.int .u64 ((v:Nat):Int),.int .i64 kk]]) (cw_keep [(0,.agg #[.int .i64 3,.slice A n cap,.slice B n' cap',.int .u64 ((v:Nat):Int),.int .i64 kk])] ⟨rfl,trivial⟩ (sr (bx [.int .i64 3,.slice A n cap,.slice B n' cap',.int .u64 ((v:Nat):Int),.int .i64 kk] (Ext.refl w) rfl rfl rfl fun g1 v2 hb4 ge5 e3 hw1=>(alq [S0,S0,.int .u64 0,I0,I0] hw1 hb4.lt (fun _=>by kernel_rfl) rfl fun g6 v7 hb9 ge10 q11 e8 hw2=>(ne_ (sr (alq [S0,S0,.int .u64 0,I0,I0] hw2 hb9.lt (fun _=>by kernel_rfl) rfl fun g12 v13 hb15 ge16 q17 e14 hw3=>(ne_ (cw_seq (sr (pf g1 0 rfl (by kernel_rfl) (wl_load rfl rfl (load_cell (fun _=>by kernel_rfl) (hb4.ext (e8.trans e14)) rfl) (by decide) (wl_nil ?_)))))))))))))
 refine eo_then (cw_block (sr (wl_cmp rfl rfl rfl false (by decide) (by decide) (mv 1 rfl (ne_ (cw_false rfl (sr (wl_cmp rfl rfl rfl false (by decide) (by decide) (mv 1 rfl (ne_ (cw_false rfl (sr (wl_cmp rfl rfl rfl true (by decide) (by decide) ?_)))))))))))))
 refine mv 1 rfl (ne_ (cw_true rfl (cw_region (pf g1 1 rfl (by kernel_rfl) (wl_load rfl rfl (load_cell (fun _=>by kernel_rfl) (hb4.ext (e8.trans e14)) rfl) (by decide) (pf g1 2 rfl (by kernel_rfl) (wl_load rfl rfl (load_cell (fun _=>by kernel_rfl) (hb4.ext (e8.trans e14)) rfl) (by decide) (cl (vs:= [.slice A n cap,.slice B n' cap']) hw3 (j3_Exact hw3.size (hx.ext hw3) (lx_ hl rfl) (hy.ext hw3) (Nat.le_trans hl' (by decide))) rfl (by kernel_rfl) fun xr20 v18 r20 e19 hw4=>?_))))))))
 obtain⟨_,_,rfl,⟨A22,n22,c22,rfl,j22,o22⟩,rfl⟩:=r20
 refine mv 1 rfl (pu (v:= .slice A22 n22 c22) rfl (by kernel_rfl) (pu (v:= .int .i64 (xe3 X Y)) rfl (by kernel_rfl) (pf g12 0 rfl (by kernel_rfl) ?_)))
 have hb24:=(hb15.ext e19)
 refine wl_stored1 rfl rfl rfl (fun _=>by kernel_rfl) rfl hb24 (bq rfl) rfl [.slice A22 n22 c22,S0,.int .u64 0,I0,I0] rfl fun v23 hb25 u26 hs27=>?_
 have hw5:=u26.ext hw4 ge16
 refine pf g12 4 rfl (by kernel_rfl) (wl_stored1 rfl rfl rfl (fun _=>by kernel_rfl) rfl hb25 (bq rfl) rfl [.slice A22 n22 c22,S0,.int .u64 0,I0,.int .i64 (xe3 X Y)] rfl fun v28 hb30 u31 hs32=>?_)
 have hw6:=u31.ext hw5 ge16
 refine wl_nil (eo_block_normal (eo_then (sr (lo aggAns3 hb30 [.slice A22 n22 c22,S0,.int .u64 0,I0,.int .i64 (xe3 X Y)] rfl rfl rfl ?_))))
 have hb34:=(((hb9.ext (e14.trans e19)).updN u26 (by omega)).updN u31 (by omega))
 refine so aggAns3 hb34 [.slice A22 n22 c22,S0,.int .u64 0,I0,.int .i64 (xe3 X Y)] hw6 ge10 rfl rfl rfl rfl fun v33 hb35 u36 hw7=>(ne_ (cw_ret (eo_ret [.agg #[.slice A22 n22 c22,S0,.int .u64 0,I0,.int .i64 (xe3 X Y)]] rfl ⟨⟨_,rfl,load_agg aggAns3 hb35 [.slice A22 n22 c22,S0,.int .u64 0,I0,.int .i64 (xe3 X Y)] rfl (bq rfl) rfl⟩,trivial⟩ ?_)))
 have hs:spec3 3 kk X Y v=(⟨xt3 X Y,0,0,0,xe3 X Y⟩:Ans3):=rfl
 rw [hs]
 exact⟨_,rfl,⟨_,_,_,_,_,_,rfl,j22,(((o22.updT hb24 (by decide) u26).updT hb25 (by decide) u31).updT hb34 (by decide) u36).mono hb,rfl,Own.nil _ _ _ _,(fun _ _ _ h=>by cases h),(len_xt3 hXl),(show (wd 0).length≤68719476735 by decide)⟩,hw7⟩
set_option maxHeartbeats 4000000 in
theorem g_playsA3_4 {w:World}{b:Nat}(hb:b≤w.heap.size){A:Option Addr}{n cap X:Nat}(hx:Wi w A n cap X) (hl:n≤1048576){B:Option Addr}{n' cap' Y:Nat}(hy:Wi w B n' cap' Y) (hl':n'≤1048576){v:Nat}{kk:Int}(hv:v≤18446744073709551615) (hkk:kk≤9223372036854775807):
    Calls Try.prog 35 #[.agg #[.int .i64 4,.slice A n cap,.slice B n' cap',.int .u64 ((v:Nat):Int),.int .i64 kk]] w (Gv w (AnsP3 b (spec3 4 kk X Y v))):=by
 have hXl:(wd X).length≤68719476735:=Nat.le_trans hx.len (lx_ hl rfl)
 have hYl:(wd Y).length≤68719476735:=Nat.le_trans hy.len (Nat.le_trans hl' (by decide))
 refine sx_enter Try.func35 rfl (n:=91) rfl (bq rfl) (args:= [.agg #[.int .i64 4,.slice A n cap,.slice B n' cap',.int .u64 ((v:Nat):Int),.int .i64 kk]]) (cw_keep [(0,.agg #[.int .i64 4,.slice A n cap,.slice B n' cap',.int .u64 ((v:Nat):Int),.int .i64 kk])] ⟨rfl,trivial⟩ (sr (bx [.int .i64 4,.slice A n cap,.slice B n' cap',.int .u64 ((v:Nat):Int),.int .i64 kk] (Ext.refl w) rfl rfl rfl fun g1 v2 hb4 ge5 e3 hw1=>(alq [S0,S0,.int .u64 0,I0,I0] hw1 hb4.lt (fun _=>by kernel_rfl) rfl fun g6 v7 hb9 ge10 q11 e8 hw2=>(ne_ (sr (alq [S0,S0,.int .u64 0,I0,I0] hw2 hb9.lt (fun _=>by kernel_rfl) rfl fun g12 v13 hb15 ge16 q17 e14 hw3=>(ne_ (cw_seq (sr (pf g1 0 rfl (by kernel_rfl) (wl_load rfl rfl (load_cell (fun _=>by kernel_rfl) (hb4.ext (e8.trans e14)) rfl) (by decide) (wl_nil ?_)))))))))))))
 refine eo_then (cw_block (sr (wl_cmp rfl rfl rfl false (by decide) (by decide) (mv 1 rfl (ne_ (cw_false rfl (sr (wl_cmp rfl rfl rfl false (by decide) (by decide) (mv 1 rfl (ne_ (cw_false rfl (sr (wl_cmp rfl rfl rfl false (by decide) (by decide) ?_)))))))))))))
 refine mv 1 rfl (ne_ (cw_false rfl (sr (wl_cmp rfl rfl rfl true (by decide) (by decide) (mv 1 rfl (ne_ (cw_true rfl (cw_region (pf g1 1 rfl (by kernel_rfl) (wl_load rfl rfl (load_cell (fun _=>by kernel_rfl) (hb4.ext (e8.trans e14)) rfl) (by decide) (pf g1 2 rfl (by kernel_rfl) (wl_load rfl rfl (load_cell (fun _=>by kernel_rfl) (hb4.ext (e8.trans e14)) rfl) (by decide) (cl (vs:= [.slice A n cap,.slice B n' cap']) hw3 (j3_Gcd hw3.size (hx.ext hw3) (lx_ hl rfl) (hy.ext hw3) (Nat.le_trans hl' (by decide))) rfl (by kernel_rfl) fun xr20 v18 r20 e19 hw4=>?_)))))))))))))
 obtain⟨A21,n21,c21,rfl,j21,o21⟩:=r20
 refine pf g12 0 rfl (by kernel_rfl) ?_
 have hb23:=(hb15.ext e19)
 refine wl_stored1 rfl rfl rfl (fun _=>by kernel_rfl) rfl hb23 (bq rfl) rfl [.slice A21 n21 c21,S0,.int .u64 0,I0,I0] rfl fun v22 hb24 u25 hs26=>?_
 have hw5:=u25.ext hw4 ge16
 refine wl_nil (eo_block_normal (eo_then (sr (lo aggAns3 hb24 [.slice A21 n21 c21,S0,.int .u64 0,I0,I0] rfl rfl rfl ?_))))
 have hb28:=((hb9.ext (e14.trans e19)).updN u25 (by omega))
 refine so aggAns3 hb28 [.slice A21 n21 c21,S0,.int .u64 0,I0,I0] hw5 ge10 rfl rfl rfl rfl fun v27 hb29 u30 hw6=>(ne_ (cw_ret (eo_ret [.agg #[.slice A21 n21 c21,S0,.int .u64 0,I0,I0]] rfl ⟨⟨_,rfl,load_agg aggAns3 hb29 [.slice A21 n21 c21,S0,.int .u64 0,I0,I0] rfl (bq rfl) rfl⟩,trivial⟩ ?_)))
 have hs:spec3 4 kk X Y v=(⟨Nat.gcd X Y,0,0,0,0⟩:Ans3):=by unfold spec3;rw [if_neg (by decide),if_neg (by decide),if_neg (by decide),if_pos rfl]
 rw [hs]
 exact⟨_,rfl,⟨_,_,_,_,_,_,rfl,j21,((o21.updT hb23 (by decide) u25).updT hb28 (by decide) u30).mono hb,rfl,Own.nil _ _ _ _,(fun _ _ _ h=>by cases h),(len_gcd3 hXl hYl),(show (wd 0).length≤68719476735 by decide)⟩,hw6⟩
set_option maxHeartbeats 4000000 in
theorem g_playsA3_5 {w:World}{b:Nat}(hb:b≤w.heap.size){A:Option Addr}{n cap X:Nat}(hx:Wi w A n cap X) (hl:n≤1048576){B:Option Addr}{n' cap' Y:Nat}(hy:Wi w B n' cap' Y) (hl':n'≤1048576){v:Nat}{kk:Int}(hv:v≤18446744073709551615) (hkk:kk≤9223372036854775807):
    Calls Try.prog 35 #[.agg #[.int .i64 5,.slice A n cap,.slice B n' cap',.int .u64 ((v:Nat):Int),.int .i64 kk]] w (Gv w (AnsP3 b (spec3 5 kk X Y v))):=by
 have hXl:(wd X).length≤68719476735:=Nat.le_trans hx.len (lx_ hl rfl)
 have hYl:(wd Y).length≤68719476735:=Nat.le_trans hy.len (Nat.le_trans hl' (by decide))
 refine sx_enter Try.func35 rfl (n:=91) rfl (bq rfl) (args:= [.agg #[.int .i64 5,.slice A n cap,.slice B n' cap',.int .u64 ((v:Nat):Int),.int .i64 kk]]) (cw_keep [(0,.agg #[.int .i64 5,.slice A n cap,.slice B n' cap',.int .u64 ((v:Nat):Int),.int .i64 kk])] ⟨rfl,trivial⟩ (sr (bx [.int .i64 5,.slice A n cap,.slice B n' cap',.int .u64 ((v:Nat):Int),.int .i64 kk] (Ext.refl w) rfl rfl rfl fun g1 v2 hb4 ge5 e3 hw1=>(alq [S0,S0,.int .u64 0,I0,I0] hw1 hb4.lt (fun _=>by kernel_rfl) rfl fun g6 v7 hb9 ge10 q11 e8 hw2=>(ne_ (sr (alq [S0,S0,.int .u64 0,I0,I0] hw2 hb9.lt (fun _=>by kernel_rfl) rfl fun g12 v13 hb15 ge16 q17 e14 hw3=>(ne_ (cw_seq (sr (pf g1 0 rfl (by kernel_rfl) (wl_load rfl rfl (load_cell (fun _=>by kernel_rfl) (hb4.ext (e8.trans e14)) rfl) (by decide) (wl_nil ?_)))))))))))))
 refine eo_then (cw_block (sr (wl_cmp rfl rfl rfl false (by decide) (by decide) (mv 1 rfl (ne_ (cw_false rfl (sr (wl_cmp rfl rfl rfl false (by decide) (by decide) (mv 1 rfl (ne_ (cw_false rfl (sr (wl_cmp rfl rfl rfl false (by decide) (by decide) ?_)))))))))))))
 refine mv 1 rfl (ne_ (cw_false rfl (sr (wl_cmp rfl rfl rfl false (by decide) (by decide) (mv 1 rfl (ne_ (cw_false rfl (sr (wl_cmp rfl rfl rfl true (by decide) (by decide) (mv 1 rfl (ne_ (cw_true rfl (cw_region ?_)))))))))))))
 refine pf g1 1 rfl (by kernel_rfl) (wl_load rfl rfl (load_cell (fun _=>by kernel_rfl) (hb4.ext (e8.trans e14)) rfl) (by decide) (cl (vs:= [.slice A n cap]) hw3 (j3_SqrtA hw3.size (hx.ext hw3) (lx_ hl rfl)) rfl (by kernel_rfl) fun xr20 v18 r20 e19 hw4=>?_))
 obtain⟨A21,n21,c21,B21,m21,d21,rfl,j21,o21,i21,q21,ap21⟩:=r20
 refine mv 1 rfl (pu (v:= .slice A21 n21 c21) rfl (by kernel_rfl) (pu (v:= .slice B21 m21 d21) rfl (by kernel_rfl) (pf g12 0 rfl (by kernel_rfl) ?_)))
 have hb23:=(hb15.ext e19)
 refine wl_stored1 rfl rfl rfl (fun _=>by kernel_rfl) rfl hb23 (bq rfl) rfl [.slice A21 n21 c21,S0,.int .u64 0,I0,I0] rfl fun v22 hb24 u25 hs26=>?_
 have hw5:=u25.ext hw4 ge16
 refine pf g12 1 rfl (by kernel_rfl) (wl_stored1 rfl rfl rfl (fun _=>by kernel_rfl) rfl hb24 (bq rfl) rfl [.slice A21 n21 c21,.slice B21 m21 d21,.int .u64 0,I0,I0] rfl fun v27 hb29 u30 hs31=>?_)
 have hw6:=u30.ext hw5 ge16
 refine wl_nil (eo_block_normal (eo_then (sr (lo aggAns3 hb29 [.slice A21 n21 c21,.slice B21 m21 d21,.int .u64 0,I0,I0] rfl rfl rfl ?_))))
 have hb33:=(((hb9.ext (e14.trans e19)).updN u25 (by omega)).updN u30 (by omega))
 refine so aggAns3 hb33 [.slice A21 n21 c21,.slice B21 m21 d21,.int .u64 0,I0,I0] hw6 ge10 rfl rfl rfl rfl fun v32 hb34 u35 hw7=>(ne_ (cw_ret (eo_ret [.agg #[.slice A21 n21 c21,.slice B21 m21 d21,.int .u64 0,I0,I0]] rfl ⟨⟨_,rfl,load_agg aggAns3 hb34 [.slice A21 n21 c21,.slice B21 m21 d21,.int .u64 0,I0,I0] rfl (bq rfl) rfl⟩,trivial⟩ ?_)))
 have hs:spec3 5 kk X Y v=(⟨rt3 X 2,X-rt3 X 2*rt3 X 2,0,0,0⟩:Ans3):=by unfold spec3;rw [if_neg (by decide),if_neg (by decide),if_neg (by decide),if_neg (by decide),if_pos rfl]
 rw [hs]
 exact⟨_,rfl,⟨_,_,_,_,_,_,rfl,j21,(((o21.updT hb23 (by decide) u25).updT hb24 (by decide) u30).updT hb33 (by decide) u35).mono hb,i21,(((q21.updT hb23 (by decide) u25).updT hb24 (by decide) u30).updT hb33 (by decide) u35).mono hb,ap21,(len_rt3 (by decide) hXl),(len_sub3 hXl)⟩,hw7⟩
set_option maxHeartbeats 4000000 in
theorem g_playsA3_6 {w:World}{b:Nat}(hb:b≤w.heap.size){A:Option Addr}{n cap X:Nat}(hx:Wi w A n cap X) (hl:n≤1048576){B:Option Addr}{n' cap' Y:Nat}(hy:Wi w B n' cap' Y) (hl':n'≤1048576){v:Nat}{kk:Int}(hv:v≤18446744073709551615) (hkk:kk≤9223372036854775807):
    Calls Try.prog 35 #[.agg #[.int .i64 6,.slice A n cap,.slice B n' cap',.int .u64 ((v:Nat):Int),.int .i64 kk]] w (Gv w (AnsP3 b (spec3 6 kk X Y v))):=by
 have hXl:(wd X).length≤68719476735:=Nat.le_trans hx.len (lx_ hl rfl)
 have hYl:(wd Y).length≤68719476735:=Nat.le_trans hy.len (Nat.le_trans hl' (by decide))
 refine sx_enter Try.func35 rfl (n:=91) rfl (bq rfl) (args:= [.agg #[.int .i64 6,.slice A n cap,.slice B n' cap',.int .u64 ((v:Nat):Int),.int .i64 kk]]) (cw_keep [(0,.agg #[.int .i64 6,.slice A n cap,.slice B n' cap',.int .u64 ((v:Nat):Int),.int .i64 kk])] ⟨rfl,trivial⟩ (sr (bx [.int .i64 6,.slice A n cap,.slice B n' cap',.int .u64 ((v:Nat):Int),.int .i64 kk] (Ext.refl w) rfl rfl rfl fun g1 v2 hb4 ge5 e3 hw1=>(alq [S0,S0,.int .u64 0,I0,I0] hw1 hb4.lt (fun _=>by kernel_rfl) rfl fun g6 v7 hb9 ge10 q11 e8 hw2=>(ne_ (sr (alq [S0,S0,.int .u64 0,I0,I0] hw2 hb9.lt (fun _=>by kernel_rfl) rfl fun g12 v13 hb15 ge16 q17 e14 hw3=>(ne_ (cw_seq (sr (pf g1 0 rfl (by kernel_rfl) (wl_load rfl rfl (load_cell (fun _=>by kernel_rfl) (hb4.ext (e8.trans e14)) rfl) (by decide) (wl_nil ?_)))))))))))))
 refine eo_then (cw_block (sr (wl_cmp rfl rfl rfl false (by decide) (by decide) (mv 1 rfl (ne_ (cw_false rfl (sr (wl_cmp rfl rfl rfl false (by decide) (by decide) (mv 1 rfl (ne_ (cw_false rfl (sr (wl_cmp rfl rfl rfl false (by decide) (by decide) ?_)))))))))))))
 refine mv 1 rfl (ne_ (cw_false rfl (sr (wl_cmp rfl rfl rfl false (by decide) (by decide) (mv 1 rfl (ne_ (cw_false rfl (sr (wl_cmp rfl rfl rfl false (by decide) (by decide) (mv 1 rfl (ne_ (cw_false rfl (cw_seq ?_)))))))))))))
 refine cw_region (wl_cmp rfl rfl rfl true (by decide) (by decide) (mv 1 rfl (ne_ (cw_true rfl (cw_region (pf g1 1 rfl (by kernel_rfl) (wl_load rfl rfl (load_cell (fun _=>by kernel_rfl) (hb4.ext (e8.trans e14)) rfl) (by decide) (pf g1 2 rfl (by kernel_rfl) (wl_load rfl rfl (load_cell (fun _=>by kernel_rfl) (hb4.ext (e8.trans e14)) rfl) (by decide) (cl (vs:= [.slice A n cap,.slice B n' cap']) hw3 (j3_Strip hw3.size (hx.ext hw3) (lx_ hl rfl) (hy.ext hw3) (Nat.le_trans hl' (by decide))) rfl (by kernel_rfl) fun xr20 v18 r20 e19 hw4=>?_))))))))))
 obtain⟨_,_,_,rfl,rfl,⟨A22,n22,c22,rfl,j22,o22⟩,rfl⟩:=r20
 refine mv 1 rfl (pu (v:= .int .i64 ((stN X Y:Nat):Int)) rfl (by kernel_rfl) (pu (v:= .slice A22 n22 c22) rfl (by kernel_rfl) (pu (v:= .int .i64 (stE X Y)) rfl (by kernel_rfl) (pf g12 3 rfl (by kernel_rfl) ?_))))
 have hb24:=(hb15.ext e19)
 refine wl_stored1 rfl rfl rfl (fun _=>by kernel_rfl) rfl hb24 (bq rfl) rfl [S0,S0,.int .u64 0,.int .i64 ((stN X Y:Nat):Int),I0] rfl fun v23 hb25 u26 hs27=>?_
 have hw5:=u26.ext hw4 ge16
 refine pf g12 0 rfl (by kernel_rfl) (wl_stored1 rfl rfl rfl (fun _=>by kernel_rfl) rfl hb25 (bq rfl) rfl [.slice A22 n22 c22,S0,.int .u64 0,.int .i64 ((stN X Y:Nat):Int),I0] rfl fun v28 hb30 u31 hs32=>?_)
 have hw6:=u31.ext hw5 ge16
 refine pf g12 4 rfl (by kernel_rfl) (wl_stored1 rfl rfl rfl (fun _=>by kernel_rfl) rfl hb30 (bq rfl) rfl [.slice A22 n22 c22,S0,.int .u64 0,.int .i64 ((stN X Y:Nat):Int),.int .i64 (stE X Y)] rfl fun v33 hb35 u36 hs37=>?_)
 have hw7:=u36.ext hw6 ge16
 refine wl_nil (eo_block_normal (eo_then (sr (lo aggAns3 hb35 [.slice A22 n22 c22,S0,.int .u64 0,.int .i64 ((stN X Y:Nat):Int),.int .i64 (stE X Y)] rfl rfl rfl ?_))))
 have hb39:=((((hb9.ext (e14.trans e19)).updN u26 (by omega)).updN u31 (by omega)).updN u36 (by omega))
 refine so aggAns3 hb39 [.slice A22 n22 c22,S0,.int .u64 0,.int .i64 ((stN X Y:Nat):Int),.int .i64 (stE X Y)] hw7 ge10 rfl rfl rfl rfl fun v38 hb40 u41 hw8=>(ne_ (cw_ret (eo_ret [.agg #[.slice A22 n22 c22,S0,.int .u64 0,.int .i64 ((stN X Y:Nat):Int),.int .i64 (stE X Y)]] rfl ⟨⟨_,rfl,load_agg aggAns3 hb40 [.slice A22 n22 c22,S0,.int .u64 0,.int .i64 ((stN X Y:Nat):Int),.int .i64 (stE X Y)] rfl (bq rfl) rfl⟩,trivial⟩ ?_)))
 have hs:spec3 6 kk X Y v=(⟨stL X Y,0,0,((stN X Y:Nat):Int),stE X Y⟩:Ans3):=by unfold spec3;rw [if_neg (by decide),if_neg (by decide),if_neg (by decide),if_neg (by decide),if_neg (by decide),if_pos rfl]
 rw [hs]
 exact⟨_,rfl,⟨_,_,_,_,_,_,rfl,j22,((((o22.updT hb24 (by decide) u26).updT hb25 (by decide) u31).updT hb30 (by decide) u36).updT hb39 (by decide) u41).mono hb,rfl,Own.nil _ _ _ _,(fun _ _ _ h=>by cases h),(len_stL hXl),(show (wd 0).length≤68719476735 by decide)⟩,hw8⟩
set_option maxHeartbeats 4000000 in
theorem g_playsA3_7 {w:World}{b:Nat}(hb:b≤w.heap.size){A:Option Addr}{n cap X:Nat}(hx:Wi w A n cap X) (hl:n≤1048576){B:Option Addr}{n' cap' Y:Nat}(hy:Wi w B n' cap' Y) (hl':n'≤1048576){v:Nat}{kk:Int}(hv:v≤18446744073709551615) (hkk:kk≤9223372036854775807):
    Calls Try.prog 35 #[.agg #[.int .i64 7,.slice A n cap,.slice B n' cap',.int .u64 ((v:Nat):Int),.int .i64 kk]] w (Gv w (AnsP3 b (spec3 7 kk X Y v))):=by
 have hXl:(wd X).length≤68719476735:=Nat.le_trans hx.len (lx_ hl rfl)
 have hYl:(wd Y).length≤68719476735:=Nat.le_trans hy.len (Nat.le_trans hl' (by decide))
 refine sx_enter Try.func35 rfl (n:=91) rfl (bq rfl) (args:= [.agg #[.int .i64 7,.slice A n cap,.slice B n' cap',.int .u64 ((v:Nat):Int),.int .i64 kk]]) (cw_keep [(0,.agg #[.int .i64 7,.slice A n cap,.slice B n' cap',.int .u64 ((v:Nat):Int),.int .i64 kk])] ⟨rfl,trivial⟩ (sr (bx [.int .i64 7,.slice A n cap,.slice B n' cap',.int .u64 ((v:Nat):Int),.int .i64 kk] (Ext.refl w) rfl rfl rfl fun g1 v2 hb4 ge5 e3 hw1=>(alq [S0,S0,.int .u64 0,I0,I0] hw1 hb4.lt (fun _=>by kernel_rfl) rfl fun g6 v7 hb9 ge10 q11 e8 hw2=>(ne_ (sr (alq [S0,S0,.int .u64 0,I0,I0] hw2 hb9.lt (fun _=>by kernel_rfl) rfl fun g12 v13 hb15 ge16 q17 e14 hw3=>(ne_ (cw_seq (sr (pf g1 0 rfl (by kernel_rfl) (wl_load rfl rfl (load_cell (fun _=>by kernel_rfl) (hb4.ext (e8.trans e14)) rfl) (by decide) (wl_nil ?_)))))))))))))
 refine eo_then (cw_block (sr (wl_cmp rfl rfl rfl false (by decide) (by decide) (mv 1 rfl (ne_ (cw_false rfl (sr (wl_cmp rfl rfl rfl false (by decide) (by decide) (mv 1 rfl (ne_ (cw_false rfl (sr (wl_cmp rfl rfl rfl false (by decide) (by decide) ?_)))))))))))))
 refine mv 1 rfl (ne_ (cw_false rfl (sr (wl_cmp rfl rfl rfl false (by decide) (by decide) (mv 1 rfl (ne_ (cw_false rfl (sr (wl_cmp rfl rfl rfl false (by decide) (by decide) (mv 1 rfl (ne_ (cw_false rfl (cw_seq ?_)))))))))))))
 refine cw_region (wl_cmp rfl rfl rfl false (by decide) (by decide) (mv 1 rfl (ne_ (cw_false rfl (sr (wl_cmp rfl rfl rfl true (by decide) (by decide) (mv 1 rfl (ne_ (cw_true rfl (cw_region (pf g1 1 rfl (by kernel_rfl) (wl_load rfl rfl (load_cell (fun _=>by kernel_rfl) (hb4.ext (e8.trans e14)) rfl) (by decide) (pf g1 4 rfl (by kernel_rfl) ?_)))))))))))))
 refine wl_load rfl rfl (load_cell (fun _=>by kernel_rfl) (hb4.ext (e8.trans e14)) rfl) (by decide) (cl (vs:= [.slice A n cap,.int .i64 kk]) hw3 (j3_Root hw3.size (hx.ext hw3) (lx_ hl rfl) hkk) rfl (by kernel_rfl) fun xr20 v18 r20 e19 hw4=>?_)
 obtain⟨_,_,rfl,⟨A22,n22,c22,rfl,j22,o22⟩,rfl⟩:=r20
 refine mv 1 rfl (pu (v:= .slice A22 n22 c22) rfl (by kernel_rfl) (pu (v:= .int .i64 (roE kk)) rfl (by kernel_rfl) (pf g12 0 rfl (by kernel_rfl) ?_)))
 have hb24:=(hb15.ext e19)
 refine wl_stored1 rfl rfl rfl (fun _=>by kernel_rfl) rfl hb24 (bq rfl) rfl [.slice A22 n22 c22,S0,.int .u64 0,I0,I0] rfl fun v23 hb25 u26 hs27=>?_
 have hw5:=u26.ext hw4 ge16
 refine pf g12 4 rfl (by kernel_rfl) (wl_stored1 rfl rfl rfl (fun _=>by kernel_rfl) rfl hb25 (bq rfl) rfl [.slice A22 n22 c22,S0,.int .u64 0,I0,.int .i64 (roE kk)] rfl fun v28 hb30 u31 hs32=>?_)
 have hw6:=u31.ext hw5 ge16
 refine wl_nil (eo_block_normal (eo_then (sr (lo aggAns3 hb30 [.slice A22 n22 c22,S0,.int .u64 0,I0,.int .i64 (roE kk)] rfl rfl rfl ?_))))
 have hb34:=(((hb9.ext (e14.trans e19)).updN u26 (by omega)).updN u31 (by omega))
 refine so aggAns3 hb34 [.slice A22 n22 c22,S0,.int .u64 0,I0,.int .i64 (roE kk)] hw6 ge10 rfl rfl rfl rfl fun v33 hb35 u36 hw7=>(ne_ (cw_ret (eo_ret [.agg #[.slice A22 n22 c22,S0,.int .u64 0,I0,.int .i64 (roE kk)]] rfl ⟨⟨_,rfl,load_agg aggAns3 hb35 [.slice A22 n22 c22,S0,.int .u64 0,I0,.int .i64 (roE kk)] rfl (bq rfl) rfl⟩,trivial⟩ ?_)))
 have hs:spec3 7 kk X Y v=(⟨roV X kk,0,0,0,roE kk⟩:Ans3):=by unfold spec3;rw [if_neg (by decide),if_neg (by decide),if_neg (by decide),if_neg (by decide),if_neg (by decide),if_neg (by decide),if_pos rfl]
 rw [hs]
 exact⟨_,rfl,⟨_,_,_,_,_,_,rfl,j22,(((o22.updT hb24 (by decide) u26).updT hb25 (by decide) u31).updT hb34 (by decide) u36).mono hb,rfl,Own.nil _ _ _ _,(fun _ _ _ h=>by cases h),(len_roV hXl),(show (wd 0).length≤68719476735 by decide)⟩,hw7⟩
set_option maxHeartbeats 4000000 in
theorem g_playsA3_k {w:World}{b:Nat}(hb:b≤w.heap.size){A:Option Addr}{n cap X:Nat}(hx:Wi w A n cap X) (hl:n≤1048576){B:Option Addr}{n' cap' Y:Nat}(hy:Wi w B n' cap' Y) (hl':n'≤1048576){v:Nat}{kk:Int}(hv:v≤18446744073709551615) (hkk:kk≤9223372036854775807){k:Int}(hk1:¬k=1) (hk2:¬k=2) (hk3:¬k=3) (hk4:¬k=4) (hk5:¬k=5) (hk6:¬k=6) (hk7:¬k=7):
    Calls Try.prog 35 #[.agg #[.int .i64 k,.slice A n cap,.slice B n' cap',.int .u64 ((v:Nat):Int),.int .i64 kk]] w (Gv w (AnsP3 b (spec3 k kk X Y v))):=by
 have hXl:(wd X).length≤68719476735:=Nat.le_trans hx.len (lx_ hl rfl)
 have hYl:(wd Y).length≤68719476735:=Nat.le_trans hy.len (Nat.le_trans hl' (by decide))
 refine sx_enter Try.func35 rfl (n:=91) rfl (bq rfl) (args:= [.agg #[.int .i64 k,.slice A n cap,.slice B n' cap',.int .u64 ((v:Nat):Int),.int .i64 kk]]) (cw_keep [(0,.agg #[.int .i64 k,.slice A n cap,.slice B n' cap',.int .u64 ((v:Nat):Int),.int .i64 kk])] ⟨rfl,trivial⟩ (sr (bx [.int .i64 k,.slice A n cap,.slice B n' cap',.int .u64 ((v:Nat):Int),.int .i64 kk] (Ext.refl w) rfl rfl rfl fun g1 v2 hb4 ge5 e3 hw1=>(alq [S0,S0,.int .u64 0,I0,I0] hw1 hb4.lt (fun _=>by kernel_rfl) rfl fun g6 v7 hb9 ge10 q11 e8 hw2=>(ne_ (sr (alq [S0,S0,.int .u64 0,I0,I0] hw2 hb9.lt (fun _=>by kernel_rfl) rfl fun g12 v13 hb15 ge16 q17 e14 hw3=>(ne_ (cw_seq (sr (pf g1 0 rfl (by kernel_rfl) (wl_load rfl rfl (load_cell (fun _=>by kernel_rfl) (hb4.ext (e8.trans e14)) rfl) (by decide) (wl_nil ?_)))))))))))))
 refine eo_then (cw_block (sr (wl_cmp rfl rfl rfl false (eq_f hk1) (by decide) (mv 1 rfl (ne_ (cw_false rfl (sr (wl_cmp rfl rfl rfl false (eq_f hk2) (by decide) (mv 1 rfl (ne_ (cw_false rfl (sr (wl_cmp rfl rfl rfl false (eq_f hk3) (by decide) ?_)))))))))))))
 refine mv 1 rfl (ne_ (cw_false rfl (sr (wl_cmp rfl rfl rfl false (eq_f hk4) (by decide) (mv 1 rfl (ne_ (cw_false rfl (sr (wl_cmp rfl rfl rfl false (eq_f hk5) (by decide) (mv 1 rfl (ne_ (cw_false rfl (cw_seq ?_)))))))))))))
 refine cw_region (wl_cmp rfl rfl rfl false (eq_f hk6) (by decide) (mv 1 rfl (ne_ (cw_false rfl (sr (wl_cmp rfl rfl rfl false (eq_f hk7) (by decide) (mv 1 rfl (ne_ (cw_false rfl (cw_skip (eo_block_normal (eo_then (cw_seq ?_)))))))))))))
 refine cw_region (lo aggAns3 hb15 [S0,S0,.int .u64 0,I0,I0] rfl rfl rfl ?_)
 have hb19:=(hb9.ext e14)
 refine so aggAns3 hb19 [S0,S0,.int .u64 0,I0,I0] hw3 ge10 rfl rfl rfl rfl fun v18 hb20 u21 hw4=>(ne_ (cw_ret (eo_ret [.agg #[S0,S0,.int .u64 0,I0,I0]] rfl ⟨⟨_,rfl,load_agg aggAns3 hb20 [S0,S0,.int .u64 0,I0,I0] rfl (bq rfl) rfl⟩,trivial⟩ ?_)))
 have hs:spec3 k kk X Y v=(⟨0,0,0,0,0⟩:Ans3):=by unfold spec3;rw [if_neg hk1,if_neg hk2,if_neg hk3,if_neg hk4,if_neg hk5,if_neg hk6,if_neg hk7]
 rw [hs]
 exact⟨_,rfl,⟨_,_,_,_,_,_,rfl,rfl,Own.nil _ _ _ _,rfl,Own.nil _ _ _ _,(fun _ _ _ h=>by cases h),(show (wd 0).length≤68719476735 by decide),(show (wd 0).length≤68719476735 by decide)⟩,hw4⟩
theorem g_playsA3 {w:World}{b:Nat}(hb:b≤w.heap.size){A:Option Addr}{n cap X:Nat}(hx:Wi w A n cap X) (hl:n≤1048576){B:Option Addr}{n' cap' Y:Nat}(hy:Wi w B n' cap' Y) (hl':n'≤1048576){v:Nat}{kk:Int}(hv:v≤18446744073709551615) (hkk:kk≤9223372036854775807){k:Int}:
  Calls Try.prog 35 #[.agg #[.int .i64 k,.slice A n cap,.slice B n' cap',.int .u64 ((v:Nat):Int),.int .i64 kk]] w (Gv w (AnsP3 b (spec3 k kk X Y v))):=by
 by_cases hk1:k=1
 ·subst hk1;exact g_playsA3_1 hb hx hl hy hl' hv hkk
 by_cases hk2:k=2
 ·subst hk2;exact g_playsA3_2 hb hx hl hy hl' hv hkk
 by_cases hk3:k=3
 ·subst hk3;exact g_playsA3_3 hb hx hl hy hl' hv hkk
 by_cases hk4:k=4
 ·subst hk4;exact g_playsA3_4 hb hx hl hy hl' hv hkk
 by_cases hk5:k=5
 ·subst hk5;exact g_playsA3_5 hb hx hl hy hl' hv hkk
 by_cases hk6:k=6
 ·subst hk6;exact g_playsA3_6 hb hx hl hy hl' hv hkk
 by_cases hk7:k=7
 ·subst hk7;exact g_playsA3_7 hb hx hl hy hl' hv hkk
 exact g_playsA3_k hb hx hl hy hl' hv hkk hk1 hk2 hk3 hk4 hk5 hk6 hk7
def tr1 (x j:Nat):Nat:=((3*x%18446744073709551616+j)%18446744073709551616+1)%18446744073709551616
def trU (i:Nat) (xs:List Nat):List Nat:=(List.range i).map (fun j=>tr1 (xs.getD j 0) j)++xs.drop i
theorem trU_zero (xs:List Nat):trU 0 xs=xs:=by unfold trU;simp
theorem trU_len {i:Nat}{xs:List Nat}(h:i≤xs.length):(trU i xs).length=xs.length:=by unfold trU;rw [List.length_append,List.length_map,List.length_range,List.length_drop];omega
theorem trU_get {i:Nat}{xs:List Nat}(h:i<xs.length):(trU i xs).getD i 0=xs.getD i 0:=by
 unfold trU
 rw [List.getD_eq_getElem?_getD,List.getElem?_append_right (by rw [List.length_map,List.length_range];exact Nat.le_refl _),List.length_map,List.length_range,Nat.sub_self,List.getElem?_drop,Nat.add_zero,←List.getD_eq_getElem?_getD]
theorem trU_set {i:Nat}{xs:List Nat}(h:i<xs.length):(trU i xs).set i (tr1 (xs.getD i 0) i)=trU (i+1) xs:=by
 unfold trU
 have e1:xs.drop i=xs.getD i 0::xs.drop (i+1):=drop_getD0 h
 rw [List.set_append_right _ _ (by rw [List.length_map,List.length_range];exact Nat.le_refl _),List.length_map,List.length_range,Nat.sub_self,e1,List.set_cons_zero,List.range_succ,List.map_append,List.append_assoc]
 rfl
theorem trU_wf {i:Nat}{xs:List Nat}(h:Wf xs):Wf (trU i xs):=by
 intro x hx
 unfold trU at hx
 rcases List.mem_append.1 hx with hx | hx
 ·obtain⟨j,_,rfl⟩:=List.mem_map.1 hx
  exact Nat.mod_lt _ (by decide)
 ·exact h x (List.mem_of_mem_drop hx)
theorem au_addw {A B:Int}{a b:Nat}(ha:A=(a:Int)) (hb:B=(b:Int)):arB .add .u64 A B=some (((a+b)%18446744073709551616:Nat):Int):=by
 subst ha hb;simp only [arB,Option.some.injEq];rw [←Int.natCast_add];exact wrap_u64_nat _
theorem au_mulw {A B:Int}{a b:Nat}(ha:A=(a:Int)) (hb:B=(b:Int)):arB .mul .u64 A B=some ((a*b%18446744073709551616:Nat):Int):=by
 subst ha hb;simp only [arB,Option.some.injEq];rw [←Int.natCast_mul];exact wrap_u64_nat _
theorem tr_step {i:Nat}{xs ms:List Nat}(h:i<xs.length):(trU i xs++ms).set i ((((3*(trU i xs++ms).getD i 0)%18446744073709551616+i)%18446744073709551616+1)%18446744073709551616)=trU (i+1) xs++ms:=by
 have h1:i<(trU i xs).length:=by rw [trU_len (by omega)];exact h
 have e:(trU i xs++ms).getD i 0=xs.getD i 0:=by
  rw [List.getD_eq_getElem?_getD,List.getElem?_append_left h1,←List.getD_eq_getElem?_getD,trU_get h]
 rw [e,List.set_append_left _ _ h1]
 exact congrArg (· ++ms) (trU_set h)
def TrP (g:Nat) (xs ms:List Nat) (w:World) (e:Ending) (w':World):Prop:=e= .returned (.tuple #[])∧Upd g w w'∧Bk w' g 24 ((trU xs.length xs++ms).map W64)
set_option maxHeartbeats 4000000 in
theorem g_turned3 {w:World}{g NN:Nat}{xs ms:List Nat}(hb0:Bk w g 24 ((xs++ms).map W64)) (hN:xs.length+ms.length=NN) (hNb:NN≤1099511627776):
    Calls Try.prog 38 #[.slice (some ⟨g,0,none⟩) NN NN,.int .i64 ((xs.length:Nat):Int)] w (TrP g xs ms w):=by
 refine sx_enter Try.func38 rfl (n:=22) rfl (bq rfl) (args:= [.slice (some ⟨g,0,none⟩) NN NN,.int .i64 ((xs.length:Nat):Int)]) (cw_keep [(0,.slice (some ⟨g,0,none⟩) NN NN),(1,.int .i64 ((xs.length:Nat):Int))] ⟨rfl,rfl,trivial⟩ (sr (mv 1 rfl (ne_ (cw_block ?_)))))
 refine cw_loop (T:=World×Nat)
  (fun⟨wr,i⟩=> [(0,.slice (some ⟨g,0,none⟩) NN NN),(1,.int .i64 ((xs.length:Nat):Int)),(4,.int .i64 ((i:Nat):Int))])
  (fun⟨wr,i⟩=>wr)
  (fun⟨wr,i⟩=>(Upd g w wr)∧(i≤xs.length)∧(Bk wr g 24 ((trU i xs++ms).map W64)))
  (fun⟨wr,i⟩=>xs.length-i)
  (⟨w,0⟩:World×Nat) ⟨Upd.refl g w,(Nat.zero_le _),(by rw [trU_zero];exact hb0)⟩ rfl ⟨rfl,rfl,rfl,trivial⟩ ?_
 rintro⟨wr,i⟩ ⟨hu,hi,hb⟩
 refine cw_re [(0,.slice (some ⟨g,0,none⟩) NN NN),(1,.int .i64 ((xs.length:Nat):Int)),(4,.int .i64 ((i:Nat):Int))] wr rfl ⟨rfl,rfl,rfl,trivial⟩ (cw_seq (cw_seq ?_))
 by_cases hin:i<xs.length
 · 
  refine cw_region (mv 2 rfl (wl_cmp rfl rfl rfl true (cb_lt_t (a:=i) (b:=xs.length) rfl rfl (by omega)) (by decide) (ne_ (cw_true rfl (cw_skip (eo_then (cw_seq (cw_block (cw_region (mv 4 rfl (wl_idx rfl rfl rfl un_u64 sz_u64 i rfl (by omega) ⟨g,i,none⟩ (arr_at _ _) (by decide) (wl_load rfl rfl (load_word ag_u64 hb (by rw [(show (trU i xs++ms).length=NN by rw [List.length_append,trU_len hi];exact hN)];omega)) (by decide) (wl_ar rfl rfl rfl (((3*((trU i xs++ms).getD i 0))%18446744073709551616:Nat):Int) (au_mulw (a:=3) (b:=(trU i xs++ms).getD i 0) rfl rfl) (by decide) ?_)))))))))))))
  refine mv 1 rfl (wl_pureE rfl rfl (v:= .int .u64 (IntKind.u64.wrap ((i:Nat):Int))) (v':= .int .u64 ((i:Nat):Int)) (by decide) (by kernel_rfl) (cv_u64 (by first | omega | exact hle64)) (wl_ar rfl rfl rfl (((((3*((trU i xs++ms).getD i 0))%18446744073709551616)+i)%18446744073709551616:Nat):Int) (au_addw (a:=(3*((trU i xs++ms).getD i 0))%18446744073709551616) (b:=i) rfl rfl) (by decide) (wl_ar rfl rfl rfl (((((((3*((trU i xs++ms).getD i 0))%18446744073709551616)+i)%18446744073709551616)+1)%18446744073709551616:Nat):Int) (au_addw (a:=(((3*((trU i xs++ms).getD i 0))%18446744073709551616)+i)%18446744073709551616) (b:=1) rfl rfl) (by decide) (wl_idx rfl rfl rfl un_u64 sz_u64 i rfl (by omega) ⟨g,i,none⟩ (arr_at _ _) (by decide) ?_))))
  have hb2:=hb
  refine wl_stored1 rfl rfl rfl sz_u64 rfl hb2 (len_map (by rw [(show (trU i xs++ms).length=NN by rw [List.length_append,trU_len hi];exact hN)];omega)) rfl (((trU i xs++ms).set i ((((((3*((trU i xs++ms).getD i 0))%18446744073709551616)+i)%18446744073709551616)+1)%18446744073709551616)).map W64) (map_W64_set _ _ _) fun v1 hb3 u4 hs5=>(wl_nil (eo_block_normal (eo_then (cw_region (mv 1 rfl (wl_ar rfl rfl rfl ((i+1:Nat):Int) (ai_add (a:=i) (b:=1) rfl rfl (by omega)) (by decide) (mv 1 rfl (wl_nil (eo_round (⟨v1,i+1⟩:World×Nat) ⟨hu.trans u4,(by omega),(by have h:=hb3;rwa [tr_step hin] at h)⟩ (show xs.length-(i+1)<xs.length-i by omega) rfl ⟨rfl,rfl,rfl,trivial⟩)))))))))
 · 
  refine cw_region (mv 2 rfl (wl_cmp rfl rfl rfl false (cb_lt_f (a:=i) (b:=xs.length) rfl rfl (by omega)) (by decide) (ne_ (cw_false rfl (cw_exit (eo_thenX (eo_loopX (eo_block_here (eo_end [] rfl trivial ?_)))))))))
  obtain rfl:i=xs.length:=by omega
  exact⟨rfl,hu,hb⟩
structure UpB (lb:Nat) (w w':World):Prop where
 os:w'.os=w.os
 tape:w'.tape=w.tape
 output:w'.output=w.output
 size:w.heap.size≤w'.heap.size
 low:∀k,k<lb→k<w.heap.size→w'.heap[k]?=w.heap[k]?
 typ:∀(k:Nat) (cs:Array Value) (t:TypeId) (fr:Nat×Nat),w.heap[k]?=some (.cells cs t fr)→t≠22→t≠77→w'.heap[k]?=some (.cells cs t fr)
section
variable {lb:Nat}{a b c w w':World}
theorem UpB.trans (h:UpB lb a b) (e:UpB lb b c):UpB lb a c:=
 ⟨e.os.trans h.os,e.tape.trans h.tape,e.output.trans h.output,Nat.le_trans h.size e.size,fun k hk hs=>(e.low k hk (Nat.lt_of_lt_of_le hs h.size)).trans (h.low k hk hs),fun k cs t fr ho h1 h2=>e.typ k cs t fr (h.typ k cs t fr ho h1 h2) h1 h2⟩
theorem UpB.of_ext (lb:Nat) (e:Ext w w'):UpB lb w w':=⟨e.below.os,e.below.tape,e.below.output,e.size,fun k _ hs=>e.below.block k hs,fun _ _ _ _ ho _ _=>e.heap ho⟩
theorem UpB.ext (h:UpB lb w w') (e:Ext a w) (hl:a.heap.size≤lb):Ext a w':=
 ⟨⟨h.os.trans e.below.os,h.tape.trans e.below.tape,h.output.trans e.below.output,Nat.le_trans e.size h.size,fun k hk=>(h.low k (Nat.lt_of_lt_of_le hk hl) (Nat.lt_of_lt_of_le hk e.size)).trans (e.below.block k hk)⟩⟩
theorem UpB.bk {g:Nat}{t:TypeId}{vs:List Value}(h:UpB lb w w') (hb:Bk w g t vs) (h1:t≠22) (h2:t≠77):Bk w' g t vs:=h.typ g _ _ _ hb h1 h2
theorem UpB.own {base s n cap:Nat}{t:TypeId}{A:Option Addr}{vs:List Value}(h:UpB lb w w') (ho:Own w base t s A n cap vs) (h1:t≠22) (h2:t≠77):Own w' base t s A n cap vs:=by
 rcases ho with ho | ⟨g,cs,ha,hb,hk,r⟩
 ·exact Or.inl ho
 ·exact Or.inr ⟨g,cs,ha,hb,h.bk hk h1 h2,r⟩
theorem UpB.ofO {A:Option Addr}{s n cap:Nat}{vs:List Value}(ho:Own w lb 22 s A n cap vs) (u:UpdO A w w'):UpB lb w w':=by
 refine⟨u.by_.os,u.by_.tape,u.by_.output,u.size,fun k hk hs=>?_,fun k cs t fr h1 h2 _=>?_⟩
 ·refine u.by_.block k hs fun e=>?_
  cases A with
  | none=>cases e
  | some p=>
   have e':k=p.block:=Option.some.inj e
   have:=(ho.block p rfl).1
   omega
 ·refine u.heap h1 fun p hp e=>h2 ?_
  rcases ho with⟨h,_⟩ | ⟨g,cs',ha,_,hk,_⟩
  ·rw [h] at hp;cases hp
  ·rw [ha] at hp;cases hp
   simp only at e
   subst e
   unfold Bk at hk
   rw [hk] at h1
   injection h1 with h1
   injection h1 with _ h1
   exact h1.symm
theorem UpB.ofU {g:Nat}{vs:List Value}(hb:Bk w g 77 vs) (hg:lb≤g) (u:Upd g w w'):UpB lb w w':=by
 have u':UpdO (some ⟨g,0,none⟩) w w':=u.updO
 refine⟨u'.by_.os,u'.by_.tape,u'.by_.output,u'.size,fun k hk hs=>?_,fun k cs t fr h1 _ h2=>?_⟩
 ·refine u'.by_.block k hs fun e=>?_
  have e':k=g:=Option.some.inj e
  omega
 ·refine u'.heap h1 fun p hp e=>h2 ?_
  cases hp
  simp only at e
  subst e
  unfold Bk at hb
  rw [hb] at h1
  injection h1 with h1
  injection h1 with _ h1
  exact h1.symm
end
theorem Bk.byO {w w':World}{g lb n c:Nat}{t T:TypeId}{A:Option Addr}{vs us:List Value}(h:Bk w g t vs) (ho:Own w lb T 1 A n c us) (hne:t≠T) (u:UpdO A w w'):Bk w' g t vs:=by
 refine u.heap h fun p hp e=>hne ?_
 rcases ho with⟨h1,_⟩ | ⟨k,cs,ha,_,hk,_⟩
 ·rw [h1] at hp;cases hp
 ·rw [ha] at hp;cases hp
  simp only at e
  subst e
  unfold Bk at h hk
  rw [hk] at h
  injection h with h
  injection h with _ h
  exact h.symm
def WordP (w:World) (lb g n:Nat) (ls:List Lst) (x:Lst) (e:Ending) (w':World):Prop:=
 e= .returned (.tuple #[])∧UpB lb w w'∧∃WA c,Bk w' g 77 [.slice WA (n+1) c,.slice none 0 0,.slice none 0 0]∧Own w' lb 22 1 WA (n+1) c ((ls++ [x]).map Lst.v)
theorem g_Word {w:World}{g lb n wc m c:Nat}{WA A:Option Addr}{ls:List Lst}(hB:Bk w g 77 [.slice WA n wc,.slice none 0 0,.slice none 0 0]) (hW:Own w lb 22 1 WA n wc (ls.map Lst.v)) (hlb:lb≤w.heap.size) (hg:lb≤g) (hn:n≤1048576):
    Calls Try.prog 40 #[.pointer (some ⟨g,0,none⟩),.slice A m c] w (WordP w lb g n ls ⟨A,m,c⟩):=by
 refine sx_enter Try.func40 rfl (n:=14) rfl (bq rfl) (args:= [.pointer (some ⟨g,0,none⟩),.slice A m c]) (cw_keep [(0,.pointer (some ⟨g,0,none⟩)),(1,.slice A m c)] ⟨rfl,rfl,trivial⟩ (cw_region (mv 2 rfl (pf g 0 rfl (by kernel_rfl) (pf g 0 rfl (by kernel_rfl) (wl_load rfl rfl (load_cell (fun _=>by kernel_rfl) hB rfl) (by decide) (mv 1 rfl (wl_bslice rfl rfl (by decide) (k:=1) (e:=22) [.slice A m c] (fun _=>by kernel_rfl) fun g1 v1 nb=>?_))))))))
 have hb1:=nb.bk
 have e1:=nb.ext
 clear nb
 have hW1:=hW.ext e1
 refine wl_app rfl rfl rfl un_wl info_wl rfl (by decide) (by decide) hW1 (Nat.le_trans hlb e1.size) [.slice A m c] rfl (one_news3 _ hb1) rfl (by omega) (by decide) fun A2 c2 v2 ho uo kp=>(pf g 0 rfl (by kernel_rfl) (pf g 0 rfl (by kernel_rfl) ?_))
 have hB2:=(hB.ext e1).byO hW1 (by decide) uo
 refine wl_stored1 rfl rfl rfl (fun _=>by kernel_rfl) rfl hB2 (bq rfl) rfl [.slice A2 (n+1) c2,S0,S0] rfl fun v3 hb3 u3 hs3=>(wl_nil (eo_end [] rfl trivial (⟨rfl,(UpB.of_ext lb e1).trans ((UpB.ofO hW1 uo).trans (UpB.ofU hB2 hg u3)),A2,c2,hb3,?_⟩)))
 have h:=ho.updT hB2 (by decide) u3
 rw [List.map_append]
 exact h
def Dis1 (x:Lst):List Lst→Prop
 | []=>True
 | y::r=>(∀p q,x.A=some p→y.A=some q→p.block≠q.block)∧Dis1 x r
def DisL:List Lst→Prop
 | []=>True
 | x::r=>Dis1 x r∧DisL r
def OwnL (w:World) (lb:Nat):List Lst→Prop
 | []=>True
 | x::r=>(∃xs:List Nat,Own w lb 24 1 x.A x.n x.c (xs.map W64))∧OwnL w lb r
theorem Dis1.at_ {x:Lst}:∀{r:List Lst},Dis1 x r→∀b,b<r.length→∀p q,x.A=some p→(r.getD b Lst.z).A=some q→p.block≠q.block
 | [],_,b,h,_,_,_,_=>absurd h (Nat.not_lt_zero _)
 | _::_,h,0,_,p,q,hp,hq=>h.1 p q hp hq
 | _::r,h,b+1,hb,p,q,hp,hq=>Dis1.at_ h.2 b (by simpa using hb) p q hp hq
theorem DisL.at_:∀{ls:List Lst},DisL ls→∀a b,a<ls.length→b<ls.length→a≠b→∀p q,(ls.getD a Lst.z).A=some p→(ls.getD b Lst.z).A=some q→p.block≠q.block
 | [],_,a,_,h,_,_,_,_,_,_=>absurd h (Nat.not_lt_zero _)
 | _::_,_,0,0,_,_,hne,_,_,_,_=>absurd rfl hne
 | _::r,h,0,b+1,_,hb,_,p,q,hp,hq=>h.1.at_ b (by simpa using hb) p q hp hq
 | _::r,h,a+1,0,ha,_,_,p,q,hp,hq=>fun e=>h.1.at_ a (by simpa using ha) q p hq hp e.symm
 | _::r,h,a+1,b+1,ha,hb,hne,p,q,hp,hq=>DisL.at_ h.2 a b (by simpa using ha) (by simpa using hb) (fun e=>hne (by rw [e])) p q hp hq
theorem OwnL.at_ {w:World}{lb:Nat}:∀{ls:List Lst},OwnL w lb ls→∀a,a<ls.length→∃xs:List Nat,Own w lb 24 1 (ls.getD a Lst.z).A (ls.getD a Lst.z).n (ls.getD a Lst.z).c (xs.map W64)
 | [],_,a,h=>absurd h (Nat.not_lt_zero _)
 | _::_,h,0,_=>h.1
 | _::r,h,a+1,ha=>OwnL.at_ h.2 a (by simpa using ha)
theorem al0_of {w:World}{lb:Nat}{ls:List Lst}(hd:DisL ls) (ho:OwnL w lb ls):Al0 w lb ls:=
 ⟨hd.at_,fun a ha=>by
  obtain⟨xs,h⟩:=ho.at_ a ha
  exact⟨xs,h,fun h=>absurd h (Nat.not_lt_zero _),fun _=>rfl⟩⟩
theorem sepN {A B:Option Addr}{s e s' e':Nat}(h:∀p,A=some p→s≤p.block∧p.block<e) (h':∀p,B=some p→s'≤p.block∧p.block<e') (hle:e'≤s):∀p q,A=some p→B=some q→p.block≠q.block:=fun p q hp hq=>by
 have:=h p hp;have:=h' q hq;omega
theorem sepO {A B:Option Addr}{s e s' e':Nat}(h:∀p,A=some p→s≤p.block∧p.block<e) (h':∀p,B=some p→s'≤p.block∧p.block<e') (hle:e≤s'):∀p q,A=some p→B=some q→p.block≠q.block:=fun p q hp hq=>by
 have:=h p hp;have:=h' q hq;omega
end Go.Proofs.Ytgilhcdglaneiaa
