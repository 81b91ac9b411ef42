/- Parts Rf6b, Sxk, Bit, Pow6, Rf6c, Tot6, Bo, Lg6, joined. -/
import Derived.Test.YtgilhcdglaneiaaGreatS4
import Derived.WalkSmall

namespace Go.Proofs.YtgilhcdglaneiaaGreat
open Go.RowKit
noncomputable def bzu (x y:Int):Int:=Classical.choose (bez_ex x y)
noncomputable def bzv (x y:Int):Int:=Classical.choose (Classical.choose_spec (bez_ex x y))
theorem bzs (x y:Int):Bez x y (bzu x y) (bzv x y):=Classical.choose_spec (Classical.choose_spec (bez_ex x y))
theorem Bez.uniq {x y u v u' v':Int}(h:Bez x y u v) (h':Bez x y u' v'):u=u'∧v=v':=by
 by_cases hy:y=0
 ·obtain⟨a,b⟩:=h.zero hy
  obtain⟨c,d⟩:=h'.zero hy
  exact⟨by rw [a,c],by rw [b,d]⟩
 ·have hg:=Int.gcd_pos_of_ne_zero_right x hy
  have h1:=h.eq
  have h2:=h'.eq
  have h3:=h.lo hy
  have h4:=h'.lo hy
  have h5:=h.hi hy
  have h6:=h'.hi hy
  have hd:y∣u*(Int.gcd x y:Int)-u'*(Int.gcd x y:Int):=by
   refine⟨u*v'-u'*v,?_⟩
   generalize (Int.gcd x y:Int)=g at*
   have e:u*g-u'*g=u*(x*u'+y*v')-u'*(x*u+y*v):=by rw [h1,h2]
   rw [e];grind
  have h7:0≤u*(Int.gcd x y:Int):=Int.mul_nonneg h3 (by omega)
  have h8:0≤u'*(Int.gcd x y:Int):=Int.mul_nonneg h4 (by omega)
  have hz:=Int.eq_zero_of_dvd_of_natAbs_lt_natAbs hd (by omega)
  have hu:u=u':=Int.eq_of_mul_eq_mul_right (show (Int.gcd x y:Int)≠0 by omega) (by omega)
  subst hu
  exact⟨rfl,Int.eq_of_mul_eq_mul_left hy (by omega)⟩
theorem Bez.eqs {x y u v:Int}(h:Bez x y u v):u=bzu x y∧v=bzv x y:=h.uniq (bzs x y)
theorem g_ref6_ExtR {w:World}{sa:Bool}{Aa:Option Addr}{na ca:Nat}{x:Int}{sb:Bool}{Ab:Option Addr}{nb cb:Nat}{y:Int}{b:Nat}(hb:b≤w.heap.size) (hx:Zi w sa Aa na ca x) (la:na≤1073741824) (hy:Zi w sb Ab nb cb y) (lb:nb≤1073741824):
  Calls Tryz.prog 38 #[.agg #[.bool sa,.slice Aa na ca],.agg #[.bool sb,.slice Ab nb cb]] w (Gv w (T3 (ZR b (Int.gcd x y:Int)) (ZR b (bzu x y)) (ZR b (bzv x y)))):=
 (g_ref6_Ext hb hx la hy lb).mono fun _ _ ⟨u,v,h,v0,h1,h2,h3⟩=>⟨v0,h1,(by obtain⟨rfl,rfl⟩:=h.eqs;exact h2),h3⟩
theorem abs_mod0 {a g:Int}(h:g∣a):((a.natAbs:Int)).natAbs%g.natAbs=0:=by
 rw [Int.natAbs_natCast];exact Nat.mod_eq_zero_of_dvd (Int.natAbs_dvd_natAbs.2 h)
theorem abs_tdiv6 {a g:Int}(hg:0≤g):(a.natAbs:Int).tdiv g=((a.tdiv g).natAbs:Int):=by
 rw [Int.natAbs_tdiv]
 obtain⟨k,rfl⟩:=Int.eq_ofNat_of_zero_le hg
 rw [Int.natAbs_natCast]
 exact Int.ofNat_tdiv _ _
theorem crt6_g {m n:Int}(hm:m≠0):(m.natAbs:Int).tdiv (Int.gcd m n:Int)*(Int.gcd m n:Int)=(m.natAbs:Int)∧(n.natAbs:Int).tdiv (Int.gcd m n:Int)*(Int.gcd m n:Int)=(n.natAbs:Int):=
 ⟨Int.tdiv_mul_cancel (Int.dvd_natAbs.2 (Int.gcd_dvd_left m n)),Int.tdiv_mul_cancel (Int.dvd_natAbs.2 (Int.gcd_dvd_right m n))⟩
theorem crt6_pre {m n:Int}(hm:m≠0) (hn:n≠0):(n.natAbs:Int).tdiv (Int.gcd m n:Int)≠0∧(Int.gcd ((m.natAbs:Int).tdiv (Int.gcd m n:Int)) ((n.natAbs:Int).tdiv (Int.gcd m n:Int)):Int)=1:=by
 obtain⟨e1,e2⟩:=crt6_g (n:=n) hm
 have hpos:0<Int.gcd m n:=Int.gcd_pos_of_ne_zero_left n hm
 refine⟨fun e=>?_,?_⟩
 ·rw [e,Int.zero_mul] at e2;omega
 ·have h1:Int.gcd ((m.natAbs:Int).tdiv (Int.gcd m n:Int)*(Int.gcd m n:Int)) ((n.natAbs:Int).tdiv (Int.gcd m n:Int)*(Int.gcd m n:Int))=Int.gcd ((m.natAbs:Int).tdiv (Int.gcd m n:Int)) ((n.natAbs:Int).tdiv (Int.gcd m n:Int))*(Int.gcd m n:Int).natAbs:=Int.gcd_mul_right _ _ _
  rw [e1,e2,Int.natAbs_natCast] at h1
  have h0:Int.gcd (m.natAbs:Int) (n.natAbs:Int)=Int.gcd m n:=by unfold Int.gcd;rw [Int.natAbs_natCast,Int.natAbs_natCast]
  have h2:1*Int.gcd m n=Int.gcd ((m.natAbs:Int).tdiv (Int.gcd m n:Int)) ((n.natAbs:Int).tdiv (Int.gcd m n:Int))*Int.gcd m n:=by rw [Nat.one_mul,←h1,h0]
  have:=Nat.eq_of_mul_eq_mul_right hpos h2
  omega
theorem crt6_mne {m v:Int}(hm:m≠0) (hv:v≠0):(m.natAbs:Int)*v≠0:=fun e=>by
 rcases Int.mul_eq_zero.1 e with h | h
 ·omega
 ·exact hv h
theorem crt6_lcm {m n:Int}(hm:m≠0) (hn:n≠0):(m.natAbs:Int)*(n.natAbs:Int).tdiv (Int.gcd m n:Int)=(Int.lcm m n:Int):=by
 rw [abs_tdiv6 (by omega),←Int.natCast_mul,←Int.natAbs_mul,Int.natAbs_mul,Int.natAbs_tdiv,Int.natAbs_natCast]
 unfold Int.lcm Nat.lcm
 congr 1
 exact (Nat.mul_div_assoc _ (Int.gcd_dvd_natAbs_right m n)).symm
theorem crt6_eq {x y m n s u v:Int}(hm:m≠0) (hn:n≠0) (h:Bez ((m.natAbs:Int).tdiv (Int.gcd m n:Int)) ((n.natAbs:Int).tdiv (Int.gcd m n:Int)) u v) (d1:m∣x-s) (d2:n∣y-s):
  (x+((y-x).tdiv (Int.gcd m n:Int)*u%(n.natAbs:Int).tdiv (Int.gcd m n:Int))*(m.natAbs:Int))%((m.natAbs:Int)*(n.natAbs:Int).tdiv (Int.gcd m n:Int))=s%(Int.lcm m n:Int):=by
 rw [crt6_lcm hm hn]
 obtain⟨e1,e2⟩:=crt6_g (n:=n) hm
 obtain⟨t,ht⟩:=crt_dvd d1 d2
 have hc:=(crt6_pre hm hn).2
 have hb:=h.eq
 rw [hc] at hb
 have et:(y-x).tdiv (Int.gcd m n:Int)=t:=by rw [ht];exact Int.mul_tdiv_cancel_left _ (gcd_ne_l hm)
 rw [et]
 generalize (m.natAbs:Int).tdiv (Int.gcd m n:Int)=p at*
 generalize (n.natAbs:Int).tdiv (Int.gcd m n:Int)=q at*
 have em:=Int.mul_ediv_add_emod (t*u) q
 refine emod_eq_of_dvd (Int.coe_lcm_dvd ?_ ?_)
 ·have e:x+(t*u%q)*(m.natAbs:Int)-s=(x-s)+(m.natAbs:Int)*(t*u%q):=by rw [Int.mul_comm (m.natAbs:Int)];omega
  rw [e]
  exact Int.dvd_add d1 (Int.dvd_mul_of_dvd_left (Int.dvd_natAbs.2 (Int.dvd_refl m)))
 ·have hd:(n.natAbs:Int)∣x+(t*u%q)*(m.natAbs:Int)-y:=by
   rw [←e1,←e2]
   refine⟨-(v*t)-p*(t*u/q),?_⟩
   have h3:t*u%q=t*u-q*(t*u/q):=by omega
   rw [h3]
   generalize t*u/q=k
   have h4:x-y= -((Int.gcd m n:Int)*t):=by omega
   generalize (Int.gcd m n:Int)=g at*
   have h5:x+(t*u-q*k)*(p*g)-y=(x-y)+(t*u-q*k)*(p*g):=by omega
   rw [h5,h4]
   have h6:t*u*(p*g)=g*t*(p*u):=by grind
   have h7:p*u=1-q*v:=by omega
   have h8:(t*u-q*k)*(p*g)=g*t*(1-q*v)-q*k*(p*g):=by rw [Int.sub_mul,h6,h7]
   rw [h8];grind
  have e:x+(t*u%q)*(m.natAbs:Int)-s=(x+(t*u%q)*(m.natAbs:Int)-y)+(y-s):=by omega
  rw [e]
  exact Int.dvd_add (Int.natAbs_dvd.1 hd) d2
set_option maxHeartbeats 4000000 in
theorem g_ref6_GcdAll {w:World}{b:Nat}(hb:b≤w.heap.size){A:Option Addr}{n cap:Nat}{zs:List Int}{ms:List Nat}(hl:Zl w A n cap zs ms) (hn:n≤2097152) (hmb:∀i,ms.getD i 0≤16777216):
    Calls Tryz.prog 36 #[.slice A n cap] w (Gv w (ZR b (gcdL zs))):=by
 have hln:∀i,ln (zs.getD i 0)≤16777216:=ln_getD hl hmb
 refine sx_enter Tryz.func36 rfl (n:=19) rfl (bq rfl) (args:= [.slice A n cap]) (cw_keep [(0,.slice A n cap)] ⟨rfl,trivial⟩ (sr (al [F0,S0] (Ext.refl w) (fun _=>by kernel_rfl) rfl fun g1 v2 hb4 ge5 e3 hw1=>(ne_ (sr (pu (v:= .agg #[F0,S0]) rfl (by kernel_rfl) (alq [F0,S0] hw1 hb4.lt (fun _=>by kernel_rfl) rfl fun g6 v7 hb9 ge10 q11 e8 hw2=>(so aggInt hb9 [F0,S0] hw2 ge10 rfl rfl rfl rfl fun v12 hb14 u15 hw3=>(ne_ (cw_seq (sr (mv 1 rfl (wl_nil ?_)))))))))))))
 refine eo_then (cw_block ?_)
 refine cw_loop (T:=World×Nat×ZC)
  (fun⟨wr,k,kg⟩=> [(0,.slice A n cap),(2,.pointer (some ⟨g1,0,none⟩)),(3,.pointer (some ⟨g6,0,none⟩)),(4,.int .i64 ((k:Nat):Int))])
  (fun⟨wr,k,kg⟩=>wr)
  (fun⟨wr,k,kg⟩=>(Ext w wr)∧(k≤n)∧(Bk wr g1 27 [F0,S0])∧(Bk wr g6 27 [.bool kg.s,.slice kg.A kg.n kg.c])∧(Zr wr w.heap.size kg.s kg.A kg.n kg.c (gcdL (zs.take k))))
  (fun⟨wr,k,kg⟩=>n-k)
  (⟨v12,0,⟨false,none,0,0⟩⟩:World×Nat×ZC) ⟨hw3,Nat.zero_le _,((hb4.ext e8).updN u15 (by omega)),hb14,Zr.zero⟩ rfl ⟨rfl,rfl,rfl,rfl,trivial⟩ ?_
 rintro⟨wr,k,kg⟩ ⟨hw1,hk,b_2,b_3,zg⟩
 refine cw_re [(0,.slice A n cap),(2,.pointer (some ⟨g1,0,none⟩)),(3,.pointer (some ⟨g6,0,none⟩)),(4,.int .i64 ((k:Nat):Int))] wr rfl ⟨rfl,rfl,rfl,rfl,trivial⟩ (cw_seq (cw_seq ?_))
 by_cases hkn:k<n
 · 
  refine cw_region (mv 2 rfl (pu (v:= .int .i64 ((n:Nat):Int)) rfl (by kernel_rfl) (wl_cmp rfl rfl rfl true (cb_lt_t (a:=k) (b:=n) rfl rfl (by omega)) (by decide) (ne_ (cw_true rfl (cw_skip (eo_then (cw_seq (cw_block ?_)))))))))
  obtain⟨pz17,sz17,Bz17,cz17,hpz17,ldz17,ez17⟩:=hl.at (i:=k) (by omega)
  have L18:ln ((Int.gcd (gcdL (zs.take k)) (zs.getD k 0):Int))≤16777216:=Nat.le_trans (ln_gcd _ _) (Nat.max_le.2 ⟨Nat.le_trans (ln_gcdL hln k) (by decide),Nat.le_trans (Nat.le_trans ez17.ln (hmb k)) (by decide)⟩)
  refine cw_draw mix 6 [] [Is (.agg #[.bool kg.s,.slice kg.A kg.n kg.c]),Is (.slice A n cap),Is (.int .i64 ((k:Nat):Int)),Is (.pointer (some pz17)),Is (.agg #[.bool sz17,.slice Bz17 (ms.getD k 0) cz17]),ZR w.heap.size ((Int.gcd (gcdL (zs.take k)) (zs.getD k 0):Int))] [[],[],[],[1,2],[3],[0,4]] [[],[],[],[1,2],[1,2,3],[0,1,2,3,4],[0,1,2,3,4,5]] rfl
   (obs_cons rfl rfl (hob rfl rfl ?_) (obs_cons rfl rfl (hob rfl rfl ?_) (obs_cons rfl rfl (hob rfl rfl ?_) (obs_cons rfl rfl (hob rfl rfl ?_) (obs_cons rfl rfl (hob rfl rfl ?_) (obs_cons rfl rfl (hob rfl rfl ?_) obs_nil)))))) ?_
  · 
   exact fun _ e21=>deps_nil (lo aggInt (b_3.ext e21) [.bool kg.s,.slice kg.A kg.n kg.c] rfl rfl rfl (pi_done rfl (Ext.refl _) rfl))
  · 
   exact fun _ _=>deps_nil (mv 1 rfl (pi_done rfl (Ext.refl _) rfl))
  · 
   exact fun _ _=>deps_nil (mv 1 rfl (pi_done rfl (Ext.refl _) rfl))
  · 
   exact fun _ _=>dk rfl rfl (dk rfl rfl (deps_nil (wl_idx rfl rfl rfl elemI aggInt.size k rfl (by omega) pz17 hpz17 (by decide) (pi_done rfl (Ext.refl _) rfl))))
  · 
   intro v38 e39
   have hw2:=hw1.trans e39
   refine dk rfl rfl (deps_nil (wl_load rfl rfl (ldz17 _ hw2 _ _ aggInt) (by decide) ?_))
   exact pi_done rfl (Ext.refl _) rfl
  · 
   intro v45 e46
   have hw2:=hw1.trans e46
   refine dk rfl rfl (dk rfl rfl (deps_nil ?_))
   have L57:ln ((Int.gcd (gcdL (zs.take k)) (zs.getD k 0):Int))≤16777216:=Nat.le_trans (ln_gcd _ _) (Nat.max_le.2 ⟨Nat.le_trans (ln_gcdL hln k) (by decide),Nat.le_trans (Nat.le_trans ez17.ln (hmb k)) (by decide)⟩)
   refine cl (vs:= [.agg #[.bool kg.s,.slice kg.A kg.n kg.c],.agg #[.bool sz17,.slice Bz17 (ms.getD k 0) cz17]]) hw2 (g_ref6_Gcd hw2.size (zg.ext e46).zi (zg.le (Nat.le_trans (ln_gcdL hln k) (by decide))) (ez17.ext hw2) (Nat.le_trans (hmb k) (by decide))) rfl (by kernel_rfl) fun xr60 v58 r60 e59 hw3=>?_
   obtain⟨s61,A61,n61,c61,rfl,z61⟩:=r60
   exact pi_done rfl e59 ⟨_,_,_,_,rfl,z61⟩
  · 
   intro v62 e63
   have hw2:=hw1.trans e63
   refine dk rfl rfl (dk rfl rfl (dk rfl rfl (dk rfl rfl (dk rfl rfl (deps_cons rfl rfl fun x89 y90 h91 e92 f93=>?_)))))
   obtain⟨s94,A94,n94,c94,rfl,z94⟩:=h91
   have z94:=z94.ext f93
   refine deps_nil ?_
   have hb96:=(b_3.ext e63)
   refine so aggInt hb96 [.bool s94,.slice A94 n94 c94] hw2 ge10 rfl rfl rfl rfl fun v95 hb97 u98 hw3=>(wl_nil (eo_np (eo_block_normal (eo_then (cw_region (mv 1 rfl (wl_ar rfl rfl rfl ((k+1:Nat):Int) (ai_add (a:=k) (b:=1) rfl rfl (by omega)) (by decide) (mv 1 rfl (wl_nil (eo_round (⟨v95,k+1,⟨s94,A94,n94,c94⟩⟩:World×Nat×ZC) ⟨hw3,(by omega),((b_2.ext e63).updN u98 (by omega)),hb97,((z94.updT hb96 u98)).cast (gcdL_succ (by rw [hl.len];omega))⟩ (show n-(k+1)<n-k by omega) rfl ⟨rfl,rfl,rfl,rfl,trivial⟩))))))))))
 · 
  refine cw_region (mv 2 rfl (pu (v:= .int .i64 ((n:Nat):Int)) rfl (by kernel_rfl) (wl_cmp rfl rfl rfl false (cb_lt_f (a:=k) (b:=n) rfl rfl (by omega)) (by decide) (ne_ (cw_false rfl (cw_exit (eo_thenX (eo_loopX (eo_block_here (eo_then (sr (lo aggInt b_3 [.bool kg.s,.slice kg.A kg.n kg.c] rfl rfl rfl ?_))))))))))))
  have hb101:=b_2
  refine so aggInt hb101 [.bool kg.s,.slice kg.A kg.n kg.c] hw1 ge5 rfl rfl rfl rfl fun v100 hb102 u103 hw2=>(ne_ (cw_ret (eo_ret [.agg #[.bool kg.s,.slice kg.A kg.n kg.c]] rfl ⟨⟨_,rfl,load_agg aggInt hb102 [.bool kg.s,.slice kg.A kg.n kg.c] rfl (bq rfl) rfl⟩,trivial⟩ ?_)))
  have hkn2:k=n:=by omega
  exact⟨_,rfl,⟨_,_,_,_,rfl,(((zg.updT hb101 u103)).cast (show gcdL (zs.take k)=gcdL zs by rw [hkn2,zl_full hl])).mono hb⟩,hw2⟩
set_option maxHeartbeats 4000000 in
theorem g_ref6_ExtAll {w:World}{b b2:Nat}(hb:b≤w.heap.size) (hb2:b2≤w.heap.size){A:Option Addr}{n cap:Nat}{zs:List Int}{ms:List Nat}(hl:Zl w A n cap zs ms) (hn:n≤1048576) (hmb:∀i,ms.getD i 0≤1048576) (hsum:(zs.map ln).sum≤1048576):
    Calls Tryz.prog 39 #[.slice A n cap] w (fun e w'=>∃cs,ExtL zs cs n∧Gv w (T2 (ZR b (gcdL zs)) (LR 8388608 b b2 n cs)) e w'):=by
 have hln:∀i,ln (zs.getD i 0)≤1048576:=ln_getD hl hmb
 have hsl:∀k,sl (zs.take k)≤2097152:=fun k=>Nat.le_trans (sl_le zs k) (by rw [hl.len];omega)
 refine sx_enter Tryz.func39 rfl (n:=51) rfl (bq rfl) (args:= [.slice A n cap]) (cw_keep [(0,.slice A n cap)] ⟨rfl,trivial⟩ (sr (al [F0,S0] (Ext.refl w) (fun _=>by kernel_rfl) rfl fun g1 v2 hb4 ge5 e3 hw1=>(mv 1 rfl (ne_ (sr (pu (v:= .agg #[F0,S0]) rfl (by kernel_rfl) (alq [F0,S0] hw1 hb4.lt (fun _=>by kernel_rfl) rfl fun g6 v7 hb9 ge10 q11 e8 hw2=>(so aggInt hb9 [F0,S0] hw2 ge10 rfl rfl rfl rfl fun v12 hb14 u15 hw3=>(ne_ (sr (wl_makeI (k:=0) none 8388608 w.heap.size rfl rfl rfl (by omega) (by decide) fun g17 v18 hg19 lz20 e21=>?_))))))))))))
 have q22:g1<g17:=by rw [←hg19];exact ((hb4.ext e8).updN u15 (by omega)).lt
 have q23:g6<g17:=by rw [←hg19];exact hb14.lt
 have hlbg17:g17≤v18.heap.size:=by have:=(lz20.block _ rfl).2;exact Nat.le_of_lt this
 have hglg17:w.heap.size≤g17:=by rw [←hg19];exact hw3.size
 clear hg19
 have hw4:=hw3.trans e21
 have blk24:=lz20.block
 refine mv 1 rfl (ne_ (cw_seq (sr (mv 1 rfl (ne_ (cw_block ?_))))))
 refine cw_loop (T:=World×Nat×ZC×Option Addr×Nat×List Int)
  (fun⟨wr,k,kg,LA,lc,cs⟩=> [(0,.slice A n cap),(2,.pointer (some ⟨g1,0,none⟩)),(3,.slice none 0 0),(4,.pointer (some ⟨g6,0,none⟩)),(5,.slice LA k lc),(6,.int .i64 ((k:Nat):Int))])
  (fun⟨wr,k,kg,LA,lc,cs⟩=>wr)
  (fun⟨wr,k,kg,LA,lc,cs⟩=>(Ext w wr)∧(k≤n)∧(cs.length=k)∧(∀i,ln (cs.getD i 0)≤1048578+sl (zs.take k))∧(dotL (zs.take k) cs=gcdL (zs.take k))∧(ExtR (zs.take k).reverse cs)∧(g17≤wr.heap.size)∧(Lz none 8388608 w.heap.size wr g17 LA k lc cs)∧(Bk wr g1 27 [F0,S0])∧(Bk wr g6 27 [.bool kg.s,.slice kg.A kg.n kg.c])∧(Zr wr w.heap.size kg.s kg.A kg.n kg.c (gcdL (zs.take k))))
  (fun⟨wr,k,kg,LA,lc,cs⟩=>n-k)
  (⟨v18,0,⟨false,none,0,0⟩,(some ⟨g17,0,none⟩),0,[]⟩:World×Nat×ZC×Option Addr×Nat×List Int) ⟨hw4,Nat.zero_le _,rfl,(fun i=>Nat.zero_le _),rfl,rfl,hlbg17,lz20,(((hb4.ext e8).updN u15 (by omega)).ext e21),(hb14.ext e21),Zr.zero⟩ rfl ⟨rfl,rfl,rfl,rfl,rfl,rfl,trivial⟩ ?_
 rintro⟨wr,k,kg,LA,lc,cs⟩ ⟨hw1,hk,hcl,hB,hdot,hexr,hlb,hlz,b_2,b_4,zg⟩
 refine cw_re [(0,.slice A n cap),(2,.pointer (some ⟨g1,0,none⟩)),(3,.slice none 0 0),(4,.pointer (some ⟨g6,0,none⟩)),(5,.slice LA k lc),(6,.int .i64 ((k:Nat):Int))] wr rfl ⟨rfl,rfl,rfl,rfl,rfl,rfl,trivial⟩ ?_
 have blk25:=hlz.block
 refine cw_seq (cw_seq ?_)
 by_cases hkn:k<n
 · 
  refine cw_region (mv 2 rfl (pu (v:= .int .i64 ((n:Nat):Int)) rfl (by kernel_rfl) (wl_cmp rfl rfl rfl true (cb_lt_t (a:=k) (b:=n) rfl rfl (by omega)) (by decide) (ne_ (cw_true rfl (cw_skip (eo_then (cw_seq (cw_block (cw_seq ?_))))))))))
  obtain⟨pz26,sz26,Bz26,cz26,hpz26,ldz26,ez26⟩:=hl.at (i:=k) (by omega)
  have L27:ln ((Int.gcd (gcdL (zs.take k)) (zs.getD k 0):Int))≤1048576:=Nat.le_trans (ln_gcd _ _) (Nat.max_le.2 ⟨(ln_gcdL hln k),(Nat.le_trans ez26.ln (hmb k))⟩)
  have L28:ln ((bzu (gcdL (zs.take k)) (zs.getD k 0)))≤1048577:=((bzs (gcdL (zs.take k)) (zs.getD k 0)).ln_u (ln_gcdL hln k) (Nat.le_trans ez26.ln (hmb k)))
  have L29:ln ((bzv (gcdL (zs.take k)) (zs.getD k 0)))≤1048577:=((bzs (gcdL (zs.take k)) (zs.getD k 0)).ln_v (ln_gcdL hln k) (Nat.le_trans ez26.ln (hmb k)))
  refine cw_drawA mix 13 [7,8,9] [10,11,12] [Is (.agg #[.bool kg.s,.slice kg.A kg.n kg.c]),Is (.slice A n cap),Is (.int .i64 ((k:Nat):Int)),Is (.pointer (some pz26)),Is (.agg #[.bool sz26,.slice Bz26 (ms.getD k 0) cz26]),T3 (ZR w.heap.size ((Int.gcd (gcdL (zs.take k)) (zs.getD k 0):Int))) (ZR w.heap.size ((bzu (gcdL (zs.take k)) (zs.getD k 0)))) (ZR w.heap.size ((bzv (gcdL (zs.take k)) (zs.getD k 0)))),T3 (ZR w.heap.size ((Int.gcd (gcdL (zs.take k)) (zs.getD k 0):Int))) (ZR w.heap.size ((bzu (gcdL (zs.take k)) (zs.getD k 0)))) (ZR w.heap.size ((bzv (gcdL (zs.take k)) (zs.getD k 0)))),ZR w.heap.size ((Int.gcd (gcdL (zs.take k)) (zs.getD k 0):Int)),ZR w.heap.size ((bzu (gcdL (zs.take k)) (zs.getD k 0))),ZR w.heap.size ((bzv (gcdL (zs.take k)) (zs.getD k 0))),PR wr.heap.size 27 [F0,S0],PR wr.heap.size 27 [F0,S0],PR wr.heap.size 27 [F0,S0]] [[],[],[],[1,2],[3],[0,4],[5],[6],[6],[6],[],[],[]] [[],[],[],[1,2],[1,2,3],[0,1,2,3,4],[0,1,2,3,4,5],[0,1,2,3,4,5,6],[0,1,2,3,4,5,6],[0,1,2,3,4,5,6],[],[],[],[0,1,2,3,4,5,6,7,10,11,12],[0,1,2,3,4,5,6,7,8,10,11,12,13],[0,1,2,3,4,5,6,7,8,9,10,11,12,13,14]] rfl rfl ⟨fun _ _ h=>PR.old h,fun _ _ h=>PR.old h,fun _ _ h=>PR.old h,trivial⟩
   (obs_cons rfl rfl (hob rfl rfl ?_) (obs_cons rfl rfl (hob rfl rfl ?_) (obs_cons rfl rfl (hob rfl rfl ?_) (obs_cons rfl rfl (hob rfl rfl ?_) (obs_cons rfl rfl (hob rfl rfl ?_) (obs_cons rfl rfl (hob rfl rfl ?_) (obs_cons rfl rfl (hob rfl rfl ?_) (obs_float rfl rfl (fob rfl ?_) (obs_float rfl rfl (fob rfl ?_) (obs_float rfl rfl (fob rfl ?_) (obs_cons rfl rfl (hobA rfl ?_) (obs_cons rfl rfl (hobA rfl ?_) (obs_cons rfl rfl (hobA rfl ?_) obs_nil))))))))))))) ?_
  · 
   exact fun _ e42=>deps_nil (lo aggInt (b_4.ext e42) [.bool kg.s,.slice kg.A kg.n kg.c] rfl rfl rfl (pi_done rfl (Ext.refl _) rfl))
  · 
   exact fun _ _=>deps_nil (mv 1 rfl (pi_done rfl (Ext.refl _) rfl))
  · 
   exact fun _ _=>deps_nil (mv 1 rfl (pi_done rfl (Ext.refl _) rfl))
  · 
   exact fun _ _=>dk rfl rfl (dk rfl rfl (deps_nil (wl_idx rfl rfl rfl elemI aggInt.size k rfl (by omega) pz26 hpz26 (by decide) (pi_done rfl (Ext.refl _) rfl))))
  · 
   intro v59 e60
   have hw2:=hw1.trans e60
   refine dk rfl rfl (deps_nil (wl_load rfl rfl (ldz26 _ hw2 _ _ aggInt) (by decide) ?_))
   exact pi_done rfl (Ext.refl _) rfl
  · 
   intro v66 e67
   have hw2:=hw1.trans e67
   refine dk rfl rfl (dk rfl rfl (deps_nil ?_))
   have L78:ln ((Int.gcd (gcdL (zs.take k)) (zs.getD k 0):Int))≤1048576:=Nat.le_trans (ln_gcd _ _) (Nat.max_le.2 ⟨(ln_gcdL hln k),(Nat.le_trans ez26.ln (hmb k))⟩)
   have L79:ln ((bzu (gcdL (zs.take k)) (zs.getD k 0)))≤1048577:=((bzs (gcdL (zs.take k)) (zs.getD k 0)).ln_u (ln_gcdL hln k) (Nat.le_trans ez26.ln (hmb k)))
   have L80:ln ((bzv (gcdL (zs.take k)) (zs.getD k 0)))≤1048577:=((bzs (gcdL (zs.take k)) (zs.getD k 0)).ln_v (ln_gcdL hln k) (Nat.le_trans ez26.ln (hmb k)))
   refine cl (vs:= [.agg #[.bool kg.s,.slice kg.A kg.n kg.c],.agg #[.bool sz26,.slice Bz26 (ms.getD k 0) cz26]]) hw2 (g_ref6_ExtR hw2.size (zg.ext e67).zi (zg.le (Nat.le_trans (ln_gcdL hln k) (by decide))) (ez26.ext hw2) (Nat.le_trans (hmb k) (by decide))) rfl (by kernel_rfl) fun xr83 v81 r83 e82 hw3=>?_
   obtain⟨_,_,_,rfl,⟨s85,A85,n85,c85,rfl,z85⟩,⟨s86,A86,n86,c86,rfl,z86⟩,⟨s87,A87,n87,c87,rfl,z87⟩⟩:=r83
   exact pi_done rfl e82 ⟨_,_,_,rfl,⟨_,_,_,_,rfl,z85⟩,⟨_,_,_,_,rfl,z86⟩,⟨_,_,_,_,rfl,z87⟩⟩
  · 
   intro v88 e89
   refine deps_cons rfl rfl fun x90 y91 h92 e93 f94=>?_
   obtain⟨_,_,_,rfl,⟨s96,A96,n96,c96,rfl,z96⟩,⟨s97,A97,n97,c97,rfl,z97⟩,⟨s98,A98,n98,c98,rfl,z98⟩⟩:=h92
   have z96:=z96.ext f94
   have z97:=z97.ext f94
   have z98:=z98.ext f94
   refine deps_nil (mv 1 rfl ?_)
   exact pi_done rfl (Ext.refl _) ⟨_,_,_,rfl,⟨_,_,_,_,rfl,z96⟩,⟨_,_,_,_,rfl,z97⟩,⟨_,_,_,_,rfl,z98⟩⟩
  · 
   intro v99 e100
   refine deps_cons rfl rfl fun x101 y102 h103 e104 f105=>?_
   obtain⟨_,_,_,rfl,⟨s107,A107,n107,c107,rfl,z107⟩,⟨s108,A108,n108,c108,rfl,z108⟩,⟨s109,A109,n109,c109,rfl,z109⟩⟩:=h103
   have z107:=z107.ext f105
   have z108:=z108.ext f105
   have z109:=z109.ext f105
   refine deps_nil ?_
   exact⟨.agg #[.bool s107,.slice A107 n107 c107],rfl,rfl,fun _=>by kernel_rfl,⟨_,_,_,_,rfl,z107⟩⟩
  · 
   intro v110 e111
   refine deps_cons rfl rfl fun x112 y113 h114 e115 f116=>?_
   obtain⟨_,_,_,rfl,⟨s118,A118,n118,c118,rfl,z118⟩,⟨s119,A119,n119,c119,rfl,z119⟩,⟨s120,A120,n120,c120,rfl,z120⟩⟩:=h114
   have z118:=z118.ext f116
   have z119:=z119.ext f116
   have z120:=z120.ext f116
   refine deps_nil ?_
   exact⟨.agg #[.bool s119,.slice A119 n119 c119],rfl,rfl,fun _=>by kernel_rfl,⟨_,_,_,_,rfl,z119⟩⟩
  · 
   intro v121 e122
   refine deps_cons rfl rfl fun x123 y124 h125 e126 f127=>?_
   obtain⟨_,_,_,rfl,⟨s129,A129,n129,c129,rfl,z129⟩,⟨s130,A130,n130,c130,rfl,z130⟩,⟨s131,A131,n131,c131,rfl,z131⟩⟩:=h125
   have z129:=z129.ext f127
   have z130:=z130.ext f127
   have z131:=z131.ext f127
   refine deps_nil ?_
   exact⟨.agg #[.bool s131,.slice A131 n131 c131],rfl,rfl,fun _=>by kernel_rfl,⟨_,_,_,_,rfl,z131⟩⟩
  · 
   intro v132 e133
   refine deps_nil (wl_alloc rfl (z:= .agg #[F0,S0]) (vs:= [F0,S0]) (fun _=>by kernel_rfl) rfl (by decide) fun g134 v135 nb=>?_)
   exact pi_done rfl nb.ext ⟨⟨_,rfl,by rw [←nb.at_];exact e133.size,nb.bk⟩,_,rfl,Nat.le_of_eq nb.at_⟩
  · 
   intro v136 e137
   refine deps_nil (wl_alloc rfl (z:= .agg #[F0,S0]) (vs:= [F0,S0]) (fun _=>by kernel_rfl) rfl (by decide) fun g138 v139 nb=>?_)
   exact pi_done rfl nb.ext ⟨⟨_,rfl,by rw [←nb.at_];exact e137.size,nb.bk⟩,_,rfl,Nat.le_of_eq nb.at_⟩
  · 
   intro v140 e141
   refine deps_nil (wl_alloc rfl (z:= .agg #[F0,S0]) (vs:= [F0,S0]) (fun _=>by kernel_rfl) rfl (by decide) fun g142 v143 nb=>?_)
   exact pi_done rfl nb.ext ⟨⟨_,rfl,by rw [←nb.at_];exact e141.size,nb.bk⟩,_,rfl,Nat.le_of_eq nb.at_⟩
  · 
   intro v144 e145
   have hw2:=hw1.trans e145
   refine dk rfl rfl (dk rfl rfl (dk rfl rfl (dk rfl rfl (dk rfl rfl (deps_cons rfl rfl fun x171 y172 h173 e174 f175=>?_)))))
   obtain⟨_,_,_,rfl,⟨s177,A177,n177,c177,rfl,z177⟩,⟨s178,A178,n178,c178,rfl,z178⟩,⟨s179,A179,n179,c179,rfl,z179⟩⟩:=h173
   have z177:=z177.ext f175
   have z178:=z178.ext f175
   have z179:=z179.ext f175
   refine deps_cons rfl rfl fun x180 y181 h182 e183 f184=>?_
   obtain⟨_,_,_,rfl,⟨s186,A186,n186,c186,rfl,z186⟩,⟨s187,A187,n187,c187,rfl,z187⟩,⟨s188,A188,n188,c188,rfl,z188⟩⟩:=h182
   have z186:=z186.ext f184
   have z187:=z187.ext f184
   have z188:=z188.ext f184
   refine deps_cons rfl rfl fun x189 y190 h191 e192 f193=>?_
   obtain⟨s194,A194,n194,c194,rfl,z194⟩:=h191
   have z194:=z194.ext f193
   refine deps_cons rfl rfl fun x195 y196 h197 e198 f199=>?_
   obtain⟨s200,A200,n200,c200,rfl,z200⟩:=h197
   have z200:=z200.ext f199
   refine deps_cons rfl rfl fun x201 y202 h203 e204 f205=>?_
   obtain⟨s206,A206,n206,c206,rfl,z206⟩:=h203
   have z206:=z206.ext f205
   refine deps_cons rfl rfl fun x207 y208 h209 e210 f211=>?_
   obtain⟨g212,rfl,ge214,hb213⟩:=h209
   have hb213:=hb213.ext f211
   have q215:g6<g212:=Nat.lt_of_lt_of_le b_4.lt ge214
   have ne216:∀p,LA=some p→p.block≠g212:=fun p hp=>by have:=(hlz).block p hp;have:=ge214;omega
   have ge214:w.heap.size≤g212:=Nat.le_trans hw1.size ge214
   refine deps_cons rfl rfl fun x217 y218 h219 e220 f221=>?_
   obtain⟨g222,rfl,ge224,hb223⟩:=h219
   have hb223:=hb223.ext f221
   have q225:g6<g222:=Nat.lt_of_lt_of_le b_4.lt ge224
   have ne226:∀p,LA=some p→p.block≠g222:=fun p hp=>by have:=(hlz).block p hp;have:=ge224;omega
   have ge224:w.heap.size≤g222:=Nat.le_trans hw1.size ge224
   refine deps_cons rfl rfl fun x227 y228 h229 e230 f231=>?_
   obtain⟨g232,rfl,ge234,hb233⟩:=h229
   have hb233:=hb233.ext f231
   have q235:g6<g232:=Nat.lt_of_lt_of_le b_4.lt ge234
   have ne236:∀p,LA=some p→p.block≠g232:=fun p hp=>by have:=(hlz).block p hp;have:=ge234;omega
   have ge234:w.heap.size≤g232:=Nat.le_trans hw1.size ge234
   refine deps_nil ?_
   intro hdist
   have q237:g222≠g212:=fun e=>hdist 11 (by decide) 10 (by decide) (by decide) _ _ rfl rfl _ rfl (by rw [e];rfl)
   have q238:g232≠g212:=fun e=>hdist 12 (by decide) 10 (by decide) (by decide) _ _ rfl rfl _ rfl (by rw [e];rfl)
   have q239:g232≠g222:=fun e=>hdist 12 (by decide) 11 (by decide) (by decide) _ _ rfl rfl _ rfl (by rw [e];rfl)
   clear hdist
   refine so aggInt hb213 [.bool s194,.slice A194 n194 c194] hw2 ge214 rfl rfl rfl rfl fun v240 hb242 u243 hw3=>?_
   have hb246:=(hb223.updN u243 (by omega))
   refine so aggInt hb246 [.bool s200,.slice A200 n200 c200] hw3 ge224 rfl rfl rfl rfl fun v245 hb247 u248 hw4=>?_
   have hb251:=((hb233.updN u243 (by omega)).updN u248 (by omega))
   refine so aggInt hb251 [.bool s206,.slice A206 n206 c206] hw4 ge234 rfl rfl rfl rfl fun v250 hb252 u253 hw5=>(wl_nil (eo_np (eo_then (cw_seq (sr (mv 1 rfl (ne_ (cw_block ?_))))))))
   have hlu:=(bzs (gcdL (zs.take k)) (zs.getD k 0)).ln_u2
   have hlz1:=hln k
   have hlv:ln (bzv (gcdL (zs.take k)) (zs.getD k 0))≤1048578:=by have:=((bzs (gcdL (zs.take k)) (zs.getD k 0)).ln_v (N:=1048577) (Nat.le_trans (ln_gcdL hln k) (by decide)) (Nat.le_trans (hln k) (by decide)));exact this
   refine cw_loop (T:=World×Nat)
    (fun⟨wi,j⟩=> [(0,.slice A n cap),(2,.pointer (some ⟨g1,0,none⟩)),(3,.slice none 0 0),(4,.pointer (some ⟨g6,0,none⟩)),(5,.slice LA k lc),(6,.int .i64 ((k:Nat):Int)),(7,.pointer (some ⟨g212,0,none⟩)),(8,.pointer (some ⟨g222,0,none⟩)),(9,.pointer (some ⟨g232,0,none⟩)),(10,.int .i64 ((j:Nat):Int))])
    (fun⟨wi,j⟩=>wi)
    (fun⟨wi,j⟩=>(Ext w wi)∧(j≤k)∧(g17≤wi.heap.size)∧(Lz none 8388608 w.heap.size wi g17 LA k lc (mulTo cs (bzu (gcdL (zs.take k)) (zs.getD k 0)) j))∧(Bk wi g1 27 [F0,S0])∧(Bk wi g6 27 [.bool kg.s,.slice kg.A kg.n kg.c])∧(Bk wi g212 27 [.bool s194,.slice A194 n194 c194])∧(Bk wi g222 27 [.bool s200,.slice A200 n200 c200])∧(Bk wi g232 27 [.bool s206,.slice A206 n206 c206])∧(Zr wi w.heap.size kg.s kg.A kg.n kg.c (gcdL (zs.take k)))∧(Zr wi w.heap.size s194 A194 n194 c194 ((Int.gcd (gcdL (zs.take k)) (zs.getD k 0):Int)))∧(Zr wi w.heap.size s200 A200 n200 c200 ((bzu (gcdL (zs.take k)) (zs.getD k 0))))∧(Zr wi w.heap.size s206 A206 n206 c206 ((bzv (gcdL (zs.take k)) (zs.getD k 0)))))
    (fun⟨wi,j⟩=>k-j)
    (⟨v250,0⟩:World×Nat) ⟨hw5,Nat.zero_le _,(Nat.le_trans (Nat.le_trans (Nat.le_trans (Nat.le_trans hlb e145.size) u243.by_.size) u248.by_.size) u253.by_.size),(by rw [mulTo_zero];exact ((((hlz.ext e145).updT hb213 u243 ne216).updT hb246 u248 ne226).updT hb251 u253 ne236)),((((b_2.ext e145).updN u243 (by omega)).updN u248 (by omega)).updN u253 (by omega)),((((b_4.ext e145).updN u243 (by omega)).updN u248 (by omega)).updN u253 (by omega)),((hb242.updN u248 (by omega)).updN u253 (by omega)),(hb247.updN u253 (by omega)),hb252,((((zg.ext e145).updT hb213 u243).updT hb246 u248).updT hb251 u253),(((z194.updT hb213 u243).updT hb246 u248).updT hb251 u253),(((z200.updT hb213 u243).updT hb246 u248).updT hb251 u253),(((z206.updT hb213 u243).updT hb246 u248).updT hb251 u253)⟩ rfl ⟨rfl,rfl,rfl,rfl,rfl,rfl,rfl,rfl,rfl,rfl,trivial⟩ ?_
   rintro⟨wi,j⟩ ⟨hw1,hj,hlb,hlz,b_2,b_4,b_7,b_8,b_9,zz_4,zz_7,zz_8,zz_9⟩
   refine cw_re [(0,.slice A n cap),(2,.pointer (some ⟨g1,0,none⟩)),(3,.slice none 0 0),(4,.pointer (some ⟨g6,0,none⟩)),(5,.slice LA k lc),(6,.int .i64 ((k:Nat):Int)),(7,.pointer (some ⟨g212,0,none⟩)),(8,.pointer (some ⟨g222,0,none⟩)),(9,.pointer (some ⟨g232,0,none⟩)),(10,.int .i64 ((j:Nat):Int))] wi rfl ⟨rfl,rfl,rfl,rfl,rfl,rfl,rfl,rfl,rfl,rfl,trivial⟩ ?_
   have blk255:=hlz.block
   refine cw_seq (cw_seq ?_)
   by_cases hjk0:j<k
   · 
    refine cw_region (mv 2 rfl (pu (v:= .int .i64 ((k:Nat):Int)) rfl (by kernel_rfl) (wl_cmp rfl rfl rfl true (cb_lt_t (a:=j) (b:=k) rfl rfl (by omega)) (by decide) (ne_ (cw_true rfl (cw_skip (eo_then (cw_seq (cw_block ?_)))))))))
    obtain⟨pz256,sz256,Bz256,nz256,cz256,hpz256,ldz256,hKz256,ez256⟩:=(hlz).at (i:=j) (by omega)
    have zz256:=ez256.zr
    have Lz256:ln ((mulTo cs (bzu (gcdL (zs.take k)) (zs.getD k 0)) j).getD j 0)≤3145730:=(by rw [mulTo_get (by omega)];have:=hB j;have:=hsl k;omega)
    have L257:ln (((mulTo cs (bzu (gcdL (zs.take k)) (zs.getD k 0)) j).getD j 0)*(bzu (gcdL (zs.take k)) (zs.getD k 0)))≤4194307:=Nat.le_trans (ln_mul Lz256 L28) (by decide)
    refine cw_draw mix 9 [] [Is (.slice LA k lc),Is (.int .i64 ((j:Nat):Int)),Is (.slice LA k lc),Is (.int .i64 ((j:Nat):Int)),Is (.pointer (some pz256)),Is (.agg #[.bool sz256,.slice Bz256 nz256 cz256]),Is (.agg #[.bool s200,.slice A200 n200 c200]),ZR w.heap.size (((mulTo cs (bzu (gcdL (zs.take k)) (zs.getD k 0)) j).getD j 0)*(bzu (gcdL (zs.take k)) (zs.getD k 0))),Is (.pointer (some pz256))] [[],[],[],[],[2,3],[4],[],[5,6],[0,1]] [[],[],[],[],[2,3],[2,3,4],[],[2,3,4,5,6],[0,1,2,3,4,5,6,7],[0,1,2,3,4,5,6,7,8]] rfl
     (obs_cons rfl rfl (hob rfl rfl ?_) (obs_cons rfl rfl (hob rfl rfl ?_) (obs_cons rfl rfl (hob rfl rfl ?_) (obs_cons rfl rfl (hob rfl rfl ?_) (obs_cons rfl rfl (hob rfl rfl ?_) (obs_cons rfl rfl (hob rfl rfl ?_) (obs_cons rfl rfl (hob rfl rfl ?_) (obs_cons rfl rfl (hob rfl rfl ?_) (obs_cons rfl rfl (hob rfl rfl ?_) obs_nil))))))))) ?_
    · 
     exact fun _ _=>deps_nil (mv 1 rfl (pi_done rfl (Ext.refl _) rfl))
    · 
     exact fun _ _=>deps_nil (mv 1 rfl (pi_done rfl (Ext.refl _) rfl))
    · 
     exact fun _ _=>deps_nil (mv 1 rfl (pi_done rfl (Ext.refl _) rfl))
    · 
     exact fun _ _=>deps_nil (mv 1 rfl (pi_done rfl (Ext.refl _) rfl))
    · 
     exact fun _ _=>dk rfl rfl (dk rfl rfl (deps_nil (wl_idx rfl rfl rfl elemI aggInt.size j rfl (by omega) pz256 hpz256 (by decide) (pi_done rfl (Ext.refl _) rfl))))
    · 
     exact fun _ e280=>dk rfl rfl (deps_nil (wl_load rfl rfl (ldz256 _ e280 _ _ aggInt) (by decide) (pi_done rfl (Ext.refl _) rfl)))
    · 
     exact fun _ e287=>deps_nil (lo aggInt (b_8.ext e287) [.bool s200,.slice A200 n200 c200] rfl rfl rfl (pi_done rfl (Ext.refl _) rfl))
    · 
     intro v288 e289
     have hw2:=hw1.trans e289
     refine dk rfl rfl (dk rfl rfl (deps_nil ?_))
     have L300:ln (((mulTo cs (bzu (gcdL (zs.take k)) (zs.getD k 0)) j).getD j 0)*(bzu (gcdL (zs.take k)) (zs.getD k 0)))≤4194307:=Nat.le_trans (ln_mul Lz256 L28) (by decide)
     refine cl (vs:= [.agg #[.bool sz256,.slice Bz256 nz256 cz256],.agg #[.bool s200,.slice A200 n200 c200]]) hw2 (g_ref5_Mul hw2.size (zz256.ext e289).zi (zz256.le (lx_ Lz256 rfl)) (zz_8.ext e289).zi (zz_8.le (lx_ L28 rfl))) rfl (by kernel_rfl) fun xr303 v301 r303 e302 hw3=>?_
     obtain⟨s304,A304,n304,c304,rfl,z304⟩:=r303
     exact pi_done rfl e302 ⟨_,_,_,_,rfl,z304⟩
    · 
     exact fun _ _=>dk rfl rfl (dk rfl rfl (deps_nil (wl_idx rfl rfl rfl elemI aggInt.size j rfl (by omega) pz256 hpz256 (by decide) (pi_done rfl (Ext.refl _) rfl))))
    · 
     intro v317 e318
     have hw2:=hw1.trans e318
     refine dk rfl rfl (dk rfl rfl (dk rfl rfl (dk rfl rfl (dk rfl rfl (dk rfl rfl (dk rfl rfl (deps_cons rfl rfl fun x354 y355 h356 e357 f358=>?_)))))))
     obtain⟨s359,A359,n359,c359,rfl,z359⟩:=h356
     have z359:=z359.ext f358
     refine dk rfl rfl (deps_nil ?_)
     have lt370:=(hlz.ext e318)
     obtain⟨us368,own369⟩:=lt370.own
     refine wl_setI (e:=⟨s359,A359,n359,c359⟩) (z:=((mulTo cs (bzu (gcdL (zs.take k)) (zs.getD k 0)) j).getD j 0)*(bzu (gcdL (zs.take k)) (zs.getD k 0))) rfl rfl rfl hpz256 (by omega) lt370 (Or.inl z359) (z359.le (lx_ L257 rfl)) fun v365 lz366 uo367=>?_
     have hw3:=uo367.ext hw2 (fun p hp=>by have:=blk255 p hp;omega)
     have hlblz366:g17≤v365.heap.size:=Nat.le_trans (Nat.le_trans hlb e318.size) uo367.size
     refine wl_nil (eo_np (eo_block_normal (eo_then (cw_region (mv 1 rfl (wl_ar rfl rfl rfl ((j+1:Nat):Int) (ai_add (a:=j) (b:=1) rfl rfl (by omega)) (by decide) (mv 1 rfl (wl_nil (eo_round (⟨v365,j+1⟩:World×Nat) ⟨hw3,(by omega),hlblz366,(by rw [←mulTo_succ (by omega)];exact lz366),((b_2.ext e318).updO uo367 (fun p hp=>by have:=blk255 p hp;omega)),((b_4.ext e318).updO uo367 (fun p hp=>by have:=blk255 p hp;omega)),((b_7.ext e318).updO uo367 ne216),((b_8.ext e318).updO uo367 ne226),((b_9.ext e318).updO uo367 ne236),((zz_4.ext e318).updOT own369 uo367),((zz_7.ext e318).updOT own369 uo367),((zz_8.ext e318).updOT own369 uo367),((zz_9.ext e318).updOT own369 uo367)⟩ (show k-(j+1)<k-j by omega) rfl ⟨rfl,rfl,rfl,rfl,rfl,rfl,rfl,rfl,rfl,rfl,trivial⟩)))))))))
   · 
    refine cw_region (mv 2 rfl (pu (v:= .int .i64 ((k:Nat):Int)) rfl (by kernel_rfl) (wl_cmp rfl rfl rfl false (cb_lt_f (a:=j) (b:=k) rfl rfl (by omega)) (by decide) (ne_ (cw_false rfl (cw_exit (eo_thenX (eo_loopX (eo_block_here (eo_then (sr (mv 1 rfl (lo aggInt b_9 [.bool s206,.slice A206 n206 c206] rfl rfl rfl ?_)))))))))))))
    refine wl_bslice rfl rfl (by decide) (k:=1) (e:=27) [.bool s206,.slice A206 n206 c206] (fun _=>by kernel_rfl) fun g371 v372 nb=>?_
    have hb374:=nb.bk
    have ge375:w.heap.size≤g371:=by rw [←nb.at_];exact hw1.size
    have q376:g212<g371:=by rw [←nb.at_];exact b_7.lt
    have q377:g222<g371:=by rw [←nb.at_];exact b_8.lt
    have q378:g232<g371:=by rw [←nb.at_];exact b_9.lt
    have ne379:∀p,LA=some p→p.block≠g371:=fun p hp=>by have:=(hlz).block p hp;have:=nb.at_;omega
    have e373:=nb.ext
    clear nb
    have hw2:=hw1.trans e373
    have lt385:=(hlz.ext e373)
    obtain⟨us383,own384⟩:=lt385.own
    refine wl_appI (e:=⟨s206,A206,n206,c206⟩) (z:=(bzv (gcdL (zs.take k)) (zs.getD k 0))) rfl rfl rfl lt385 (Nat.le_trans hlb e373.size) hb374 (Or.inl (zz_9.ext e373)) (zz_9.le (lx_ L29 rfl)) (by omega) (by decide) fun A386 c387 v380 lz381 uo382 kp388=>?_
    have hw3:=uo382.ext hw2 (fun p hp=>by have:=blk255 p hp;omega)
    have hlblz381:g17≤v380.heap.size:=Nat.le_trans (Nat.le_trans hlb e373.size) uo382.size
    have ne389:=kept_ne kp388 (b_7.ext e373).lt ne216
    have ne390:=kept_ne kp388 (b_8.ext e373).lt ne226
    have ne391:=kept_ne kp388 (b_9.ext e373).lt ne236
    have ne392:=kept_ne kp388 hb374.lt ne379
    have blk393:=lz381.block
    refine mv 1 rfl (ne_ (cw_region (lo aggInt ((b_7.ext e373).updO uo382 ne216) [.bool s194,.slice A194 n194 c194] rfl rfl rfl ?_)))
    have hb395:=((b_4.ext e373).updO uo382 (fun p hp=>by have:=blk255 p hp;omega))
    refine so aggInt hb395 [.bool s194,.slice A194 n194 c194] hw3 ge10 rfl rfl rfl rfl fun v394 hb396 u397 hw4=>(wl_nil (eo_block_normal (eo_then (cw_region (mv 1 rfl (wl_ar rfl rfl rfl ((k+1:Nat):Int) (ai_add (a:=k) (b:=1) rfl rfl (by omega)) (by decide) (mv 1 rfl (wl_nil (eo_round (⟨v394,k+1,⟨s194,A194,n194,c194⟩,A386,c387,_⟩:World×Nat×ZC×Option Addr×Nat×List Int) ⟨hw4,(by omega),(by rw [List.length_append,mulTo_len,hcl];rfl),(ext_bound (show j=k by omega) (by rw [hl.len];omega) hcl hB (bzs (gcdL (zs.take k)) (zs.getD k 0)) hlv),(ext_step (show j=k by omega) (by rw [hl.len];omega) hcl hdot (bzs (gcdL (zs.take k)) (zs.getD k 0))),(ext_exr (show j=k by omega) (by rw [hl.len];omega) hcl hexr (bzs (gcdL (zs.take k)) (zs.getD k 0))),(Nat.le_trans hlblz381 u397.by_.size),(lz381.updT hb395 u397 (fun p hp=>by have:=blk393 p hp;omega)),(((b_2.ext e373).updO uo382 (fun p hp=>by have:=blk255 p hp;omega)).updN u397 (by omega)),hb396,((((zz_7.ext e373).updOT own384 uo382).updT hb395 u397)).cast (gcdL_succ (by rw [hl.len];omega))⟩ (show n-(k+1)<n-k by omega) rfl ⟨rfl,rfl,rfl,rfl,rfl,rfl,trivial⟩)))))))))
 · 
  refine cw_region (mv 2 rfl (pu (v:= .int .i64 ((n:Nat):Int)) rfl (by kernel_rfl) (wl_cmp rfl rfl rfl false (cb_lt_f (a:=k) (b:=n) rfl rfl (by omega)) (by decide) (ne_ (cw_false rfl (cw_exit (eo_thenX (eo_loopX (eo_block_here (eo_then (sr (lo aggInt b_4 [.bool kg.s,.slice kg.A kg.n kg.c] rfl rfl rfl (mv 1 rfl ?_)))))))))))))
  have hb400:=b_2
  refine so aggInt hb400 [.bool kg.s,.slice kg.A kg.n kg.c] hw1 ge5 rfl rfl rfl rfl fun v399 hb401 u402 hw2=>(mv 1 rfl (ne_ (cw_ret (eo_ret [.agg #[.bool kg.s,.slice kg.A kg.n kg.c],.slice LA k lc] rfl ⟨⟨_,rfl,load_agg aggInt hb401 [.bool kg.s,.slice kg.A kg.n kg.c] rfl (bq rfl) rfl⟩,rfl,trivial⟩ ?_))))
  have hkn2:k=n:=by omega
  exact⟨cs,⟨by rw [←zl_full hl,←hkn2];exact hexr,by rw [hcl,hkn2],by rw [←zl_full hl,←hkn2];exact hdot,fun i=>Nat.le_trans (hB i) (by have:=hsl k;omega)⟩,_,rfl,⟨_,_,rfl,⟨_,_,_,_,rfl,(((zg.updT hb400 u402)).cast (show gcdL (zs.take k)=gcdL zs by rw [hkn2,zl_full hl])).mono hb⟩,⟨_,_,by rw [hkn2],by rw [←hkn2];exact ((hlz.updT hb400 u402 (fun p hp=>by have:=blk25 p hp;omega))).mono (by decide) hb (by omega)⟩⟩,hw2⟩
set_option maxHeartbeats 4000000 in
theorem g_ref6_Crt_zero {w:World}{sa:Bool}{Aa:Option Addr}{na ca:Nat}{x:Int}{sb:Bool}{Ab:Option Addr}{nb cb:Nat}{m:Int}{sf:Bool}{Af:Option Addr}{nf cf:Nat}{y:Int}{sd:Bool}{Ad:Option Addr}{nd cd:Nat}{n:Int}{b:Nat}(hb:b≤w.heap.size) (hx:Zi w sa Aa na ca x) (la:na≤16777216) (hm:Zi w sb Ab nb cb m) (lb:nb≤16777216) (hy:Zi w sf Af nf cf y) (lf:nf≤16777216) (hn:Zi w sd Ad nd cd n) (ld:nd≤16777216) (h0:m=0∨n=0):
    Calls Tryz.prog 42 #[.agg #[.bool sa,.slice Aa na ca],.agg #[.bool sb,.slice Ab nb cb],.agg #[.bool sf,.slice Af nf cf],.agg #[.bool sd,.slice Ad nd cd]] w (Gv w (T3 (ZR b (0)) (ZR b (0)) (Is (.int .i64 4)))):=by
 refine Calls.mono (R:=Gv w (T3 (ZR w.heap.size (0)) (ZR w.heap.size (0)) (Is (.int .i64 4)))) ?_ (Gv.imp (T3.imp (ZR.imp hb) (ZR.imp hb) Is.imp))
 have Lx:ln x≤16777216:=Nat.le_trans hx.ln la
 have Lm:ln m≤16777216:=Nat.le_trans hm.ln lb
 have Ly:ln y≤16777216:=Nat.le_trans hy.ln lf
 have Ln:ln n≤16777216:=Nat.le_trans hn.ln ld
 refine sx_enter Tryz.func42 rfl (n:=94) rfl (bq rfl) (args:= [.agg #[.bool sa,.slice Aa na ca],.agg #[.bool sb,.slice Ab nb cb],.agg #[.bool sf,.slice Af nf cf],.agg #[.bool sd,.slice Ad nd cd]]) (cw_keep [(0,.agg #[.bool sa,.slice Aa na ca]),(1,.agg #[.bool sb,.slice Ab nb cb]),(2,.agg #[.bool sf,.slice Af nf cf]),(3,.agg #[.bool sd,.slice Ad nd cd])] ⟨rfl,rfl,rfl,rfl,trivial⟩ (sr (bx [.bool sa,.slice Aa na ca] (Ext.refl w) rfl rfl rfl fun g1 v2 hb4 ge5 e3 hw1=>(bxq [.bool sb,.slice Ab nb cb] hw1 hb4.lt rfl rfl rfl fun g6 v7 hb9 ge10 q11 e8 hw2=>(bxq [.bool sf,.slice Af nf cf] hw2 hb9.lt rfl rfl rfl fun g12 v13 hb15 ge16 q17 e14 hw3=>(bxq [.bool sd,.slice Ad nd cd] hw3 hb15.lt rfl rfl rfl fun g18 v19 hb21 ge22 q23 e20 hw4=>(alq [F0,S0] hw4 hb21.lt (fun _=>by kernel_rfl) rfl fun g24 v25 hb27 ge28 q29 e26 hw5=>(alq [F0,S0] hw5 hb27.lt (fun _=>by kernel_rfl) rfl fun g30 v31 hb33 ge34 q35 e32 hw6=>(mv 1 rfl (ne_ (cw_seq (cw_seq ?_))))))))))))
 by_cases hm1:m=0
 · 
  refine cw_region (lo aggInt (hb9.ext (e14.trans (e20.trans (e26.trans e32)))) [.bool sb,.slice Ab nb cb] rfl rfl rfl (cl (vs:= [.agg #[.bool sb,.slice Ab nb cb]]) hw6 (g_ref5_Sign (hm.ext hw6) (lx_ lb rfl)) rfl (by kernel_rfl) fun xr38 v36 r38 e37 hw7=>?_))
  obtain rfl:=r38
  refine wl_cmp rfl rfl rfl true (scmp_eq_t hm1) (by decide) (mv 4 rfl (pu (v:= .bool true) rfl (by kernel_rfl) (ne_ (cw_true rfl (sr (pu (v:= .agg #[F0,S0]) rfl (by kernel_rfl) (pu (v:= .agg #[F0,S0]) rfl (by kernel_rfl) ?_)))))))
  have hb40:=(hb27.ext (e32.trans e37))
  refine so aggInt hb40 [F0,S0] hw7 ge28 rfl rfl rfl rfl fun v39 hb41 u42 hw8=>?_
  have hb45:=((hb33.ext e37).updN u42 (by omega))
  refine so aggInt hb45 [F0,S0] hw8 ge34 rfl rfl rfl rfl fun v44 hb46 u47 hw9=>(mv 1 rfl (ne_ (cw_ret (eo_thenR (eo_ret [.agg #[F0,S0],.agg #[F0,S0],.int .i64 4] rfl ⟨⟨_,rfl,load_agg aggInt (hb41.updN u47 (by omega)) [F0,S0] rfl (bq rfl) rfl⟩,⟨_,rfl,load_agg aggInt hb46 [F0,S0] rfl (bq rfl) rfl⟩,rfl,trivial⟩ ?_)))))
  exact⟨_,rfl,⟨_,_,_,rfl,⟨_,_,_,_,rfl,(((Zr.zero (w:=v36) (base:=w.heap.size)).updT hb40 u42).updT hb45 u47)⟩,⟨_,_,_,_,rfl,(((Zr.zero (w:=v36) (base:=w.heap.size)).updT hb40 u42).updT hb45 u47)⟩,rfl⟩,hw9⟩
 · 
  refine cw_region (lo aggInt (hb9.ext (e14.trans (e20.trans (e26.trans e32)))) [.bool sb,.slice Ab nb cb] rfl rfl rfl (cl (vs:= [.agg #[.bool sb,.slice Ab nb cb]]) hw6 (g_ref5_Sign (hm.ext hw6) (lx_ lb rfl)) rfl (by kernel_rfl) fun xr51 v49 r51 e50 hw7=>?_))
  obtain rfl:=r51
  refine wl_cmp rfl rfl rfl false (scmp_eq_f hm1) (by decide) (mv 1 rfl (lo aggInt (hb21.ext (e26.trans (e32.trans e50))) [.bool sd,.slice Ad nd cd] rfl rfl rfl (cl (vs:= [.agg #[.bool sd,.slice Ad nd cd]]) hw7 (g_ref5_Sign (hn.ext hw7) (lx_ ld rfl)) rfl (by kernel_rfl) fun xr54 v52 r54 e53 hw8=>?_)))
  obtain rfl:=r54
  refine wl_cmp rfl rfl rfl true (scmp_eq_t (by omega)) (by decide) (pu (v:= .bool true) rfl (by kernel_rfl) (ne_ (cw_true rfl (sr (pu (v:= .agg #[F0,S0]) rfl (by kernel_rfl) (pu (v:= .agg #[F0,S0]) rfl (by kernel_rfl) ?_))))))
  have hb56:=(hb27.ext (e32.trans (e50.trans e53)))
  refine so aggInt hb56 [F0,S0] hw8 ge28 rfl rfl rfl rfl fun v55 hb57 u58 hw9=>?_
  have hb61:=((hb33.ext (e50.trans e53)).updN u58 (by omega))
  refine so aggInt hb61 [F0,S0] hw9 ge34 rfl rfl rfl rfl fun v60 hb62 u63 hw10=>(mv 1 rfl (ne_ (cw_ret (eo_thenR (eo_ret [.agg #[F0,S0],.agg #[F0,S0],.int .i64 4] rfl ⟨⟨_,rfl,load_agg aggInt (hb57.updN u63 (by omega)) [F0,S0] rfl (bq rfl) rfl⟩,⟨_,rfl,load_agg aggInt hb62 [F0,S0] rfl (bq rfl) rfl⟩,rfl,trivial⟩ ?_)))))
  exact⟨_,rfl,⟨_,_,_,rfl,⟨_,_,_,_,rfl,(((Zr.zero (w:=v52) (base:=w.heap.size)).updT hb56 u58).updT hb61 u63)⟩,⟨_,_,_,_,rfl,(((Zr.zero (w:=v52) (base:=w.heap.size)).updT hb56 u58).updT hb61 u63)⟩,rfl⟩,hw10⟩
set_option maxHeartbeats 4000000 in
theorem g_ref6_Crt_none {w:World}{sa:Bool}{Aa:Option Addr}{na ca:Nat}{x:Int}{sb:Bool}{Ab:Option Addr}{nb cb:Nat}{m:Int}{sf:Bool}{Af:Option Addr}{nf cf:Nat}{y:Int}{sd:Bool}{Ad:Option Addr}{nd cd:Nat}{n:Int}{b:Nat}(hb:b≤w.heap.size) (hx:Zi w sa Aa na ca x) (la:na≤16777216) (hm:Zi w sb Ab nb cb m) (lb:nb≤16777216) (hy:Zi w sf Af nf cf y) (lf:nf≤16777216) (hn:Zi w sd Ad nd cd n) (ld:nd≤16777216) (hm0:m≠0) (hn0:n≠0) (hd:¬(Int.gcd m n:Int)∣y-x):
    Calls Tryz.prog 42 #[.agg #[.bool sa,.slice Aa na ca],.agg #[.bool sb,.slice Ab nb cb],.agg #[.bool sf,.slice Af nf cf],.agg #[.bool sd,.slice Ad nd cd]] w (Gv w (T3 (ZR b (0)) (ZR b (0)) (Is (.int .i64 6)))):=by
 refine Calls.mono (R:=Gv w (T3 (ZR w.heap.size (0)) (ZR w.heap.size (0)) (Is (.int .i64 6)))) ?_ (Gv.imp (T3.imp (ZR.imp hb) (ZR.imp hb) Is.imp))
 have Lx:ln x≤16777216:=Nat.le_trans hx.ln la
 have Lm:ln m≤16777216:=Nat.le_trans hm.ln lb
 have Ly:ln y≤16777216:=Nat.le_trans hy.ln lf
 have Ln:ln n≤16777216:=Nat.le_trans hn.ln ld
 refine sx_enter Tryz.func42 rfl (n:=94) rfl (bq rfl) (args:= [.agg #[.bool sa,.slice Aa na ca],.agg #[.bool sb,.slice Ab nb cb],.agg #[.bool sf,.slice Af nf cf],.agg #[.bool sd,.slice Ad nd cd]]) (cw_keep [(0,.agg #[.bool sa,.slice Aa na ca]),(1,.agg #[.bool sb,.slice Ab nb cb]),(2,.agg #[.bool sf,.slice Af nf cf]),(3,.agg #[.bool sd,.slice Ad nd cd])] ⟨rfl,rfl,rfl,rfl,trivial⟩ (sr (bx [.bool sa,.slice Aa na ca] (Ext.refl w) rfl rfl rfl fun g1 v2 hb4 ge5 e3 hw1=>(bxq [.bool sb,.slice Ab nb cb] hw1 hb4.lt rfl rfl rfl fun g6 v7 hb9 ge10 q11 e8 hw2=>(bxq [.bool sf,.slice Af nf cf] hw2 hb9.lt rfl rfl rfl fun g12 v13 hb15 ge16 q17 e14 hw3=>(bxq [.bool sd,.slice Ad nd cd] hw3 hb15.lt rfl rfl rfl fun g18 v19 hb21 ge22 q23 e20 hw4=>(alq [F0,S0] hw4 hb21.lt (fun _=>by kernel_rfl) rfl fun g24 v25 hb27 ge28 q29 e26 hw5=>(alq [F0,S0] hw5 hb27.lt (fun _=>by kernel_rfl) rfl fun g30 v31 hb33 ge34 q35 e32 hw6=>(mv 1 rfl (ne_ (cw_seq (sr (lo aggInt (hb9.ext (e14.trans (e20.trans (e26.trans e32)))) [.bool sb,.slice Ab nb cb] rfl rfl rfl ?_)))))))))))))
 refine cl (vs:= [.agg #[.bool sb,.slice Ab nb cb]]) hw6 (g_ref5_Sign (hm.ext hw6) (lx_ lb rfl)) rfl (by kernel_rfl) fun xr38 v36 r38 e37 hw7=>?_
 obtain rfl:=r38
 refine wl_cmp rfl rfl rfl false (scmp_eq_f hm0) (by decide) (mv 1 rfl (lo aggInt (hb21.ext (e26.trans (e32.trans e37))) [.bool sd,.slice Ad nd cd] rfl rfl rfl (cl (vs:= [.agg #[.bool sd,.slice Ad nd cd]]) hw7 (g_ref5_Sign (hn.ext hw7) (lx_ ld rfl)) rfl (by kernel_rfl) fun xr41 v39 r41 e40 hw8=>?_)))
 obtain rfl:=r41
 refine wl_cmp rfl rfl rfl false (scmp_eq_f hn0) (by decide) (pu (v:= .bool false) rfl (by kernel_rfl) (ne_ (cw_false rfl (cw_skip (eo_then (sr (lo aggInt (hb9.ext (e14.trans (e20.trans (e26.trans (e32.trans (e37.trans e40)))))) [.bool sb,.slice Ab nb cb] rfl rfl rfl (lo aggInt (hb21.ext (e26.trans (e32.trans (e37.trans e40)))) [.bool sd,.slice Ad nd cd] rfl rfl rfl ?_))))))))
 have L42:ln ((Int.gcd m n:Int))≤16777216:=Nat.le_trans (ln_gcd _ _) (Nat.max_le.2 ⟨Nat.le_trans Lm (by decide),Nat.le_trans Ln (by decide)⟩)
 refine cl (vs:= [.agg #[.bool sb,.slice Ab nb cb],.agg #[.bool sd,.slice Ad nd cd]]) hw8 (g_ref6_Gcd hw8.size (hm.ext hw8) (lx_ lb rfl) (hn.ext hw8) (lx_ ld rfl)) rfl (by kernel_rfl) fun xr45 v43 r45 e44 hw9=>?_
 obtain⟨s46,A46,n46,c46,rfl,z46⟩:=r45
 refine alq [F0,S0] hw9 (hb33.ext (e37.trans (e40.trans e44))).lt (fun _=>by kernel_rfl) rfl fun g47 v48 hb50 ge51 q52 e49 hw10=>(so aggInt hb50 [.bool s46,.slice A46 n46 c46] hw10 ge51 rfl rfl rfl rfl fun v53 hb55 u56 hw11=>(ne_ (sr (lo aggInt ((hb15.ext (e20.trans (e26.trans (e32.trans (e37.trans (e40.trans (e44.trans e49))))))).updN u56 (by omega)) [.bool sf,.slice Af nf cf] rfl rfl rfl (lo aggInt ((hb4.ext (e8.trans (e14.trans (e20.trans (e26.trans (e32.trans (e37.trans (e40.trans (e44.trans e49))))))))).updN u56 (by omega)) [.bool sa,.slice Aa na ca] rfl rfl rfl ?_)))))
 have L58:ln (y-x)≤16777217:=Nat.le_trans (ln_sub Ly Lx) (by decide)
 refine cl (vs:= [.agg #[.bool sf,.slice Af nf cf],.agg #[.bool sa,.slice Aa na ca]]) hw11 (g_ref5_Sub hw11.size (hy.ext hw11) (lx_ lf rfl) (hx.ext hw11) (lx_ la rfl)) rfl (by kernel_rfl) fun xr61 v59 r61 e60 hw12=>?_
 obtain⟨s62,A62,n62,c62,rfl,z62⟩:=r61
 refine alq [F0,S0] hw12 (hb55.ext e60).lt (fun _=>by kernel_rfl) rfl fun g63 v64 hb66 ge67 q68 e65 hw13=>(so aggInt hb66 [.bool s62,.slice A62 n62 c62] hw13 ge67 rfl rfl rfl rfl fun v69 hb71 u72 hw14=>(ne_ (sr (lo aggInt hb71 [.bool s62,.slice A62 n62 c62] rfl rfl rfl (lo aggInt ((hb55.ext (e60.trans e65)).updN u72 (by omega)) [.bool s46,.slice A46 n46 c46] rfl rfl rfl (cl (vs:= [.agg #[.bool s62,.slice A62 n62 c62],.agg #[.bool s46,.slice A46 n46 c46]]) hw14 (g_ref5_Exact_not hw14.size ((z62.ext e65).updT hb66 u72).zi (z62.le (lx_ L58 rfl)) ((((z46.ext e49).updT hb50 u56).ext (e60.trans e65)).updT hb66 u72).zi (z46.le (lx_ L42 rfl)) (gcd_ne_l hm0) (mod_of_not hd)) rfl (by kernel_rfl) fun xr76 v74 r76 e75 hw15=>?_))))))
 obtain⟨_,_,rfl,⟨s78,A78,n78,c78,rfl,z78⟩,rfl⟩:=r76
 refine mv 1 rfl (pu (v:= .agg #[.bool s78,.slice A78 n78 c78]) rfl (by kernel_rfl) (pu (v:= .int .i64 8) rfl (by kernel_rfl) ?_))
 have hb80:=(hb71.ext e75)
 refine so aggInt hb80 [.bool s78,.slice A78 n78 c78] hw15 ge67 rfl rfl rfl rfl fun v79 hb81 u82 hw16=>(mv 1 rfl (ne_ (cw_seq (sr (mv 1 rfl (pu (v:= .bool true) rfl (by kernel_rfl) (ne_ (cw_true rfl (sr (pu (v:= .agg #[F0,S0]) rfl (by kernel_rfl) (pu (v:= .agg #[F0,S0]) rfl (by kernel_rfl) ?_)))))))))))
 have hb85:=((((((hb27.ext (e32.trans (e37.trans (e40.trans (e44.trans e49))))).updN u56 (by omega)).ext (e60.trans e65)).updN u72 (by omega)).ext e75).updN u82 (by omega))
 refine so aggInt hb85 [F0,S0] hw16 ge28 rfl rfl rfl rfl fun v84 hb86 u87 hw17=>?_
 have hb90:=(((((((hb33.ext (e37.trans (e40.trans (e44.trans e49)))).updN u56 (by omega)).ext (e60.trans e65)).updN u72 (by omega)).ext e75).updN u82 (by omega)).updN u87 (by omega))
 refine so aggInt hb90 [F0,S0] hw17 ge34 rfl rfl rfl rfl fun v89 hb91 u92 hw18=>(mv 1 rfl (ne_ (cw_ret (eo_thenR (eo_ret [.agg #[F0,S0],.agg #[F0,S0],.int .i64 6] rfl ⟨⟨_,rfl,load_agg aggInt (hb86.updN u92 (by omega)) [F0,S0] rfl (bq rfl) rfl⟩,⟨_,rfl,load_agg aggInt hb91 [F0,S0] rfl (bq rfl) rfl⟩,rfl,trivial⟩ ?_)))))
 exact⟨_,rfl,⟨_,_,_,rfl,⟨_,_,_,_,rfl,(((Zr.zero (w:=v79) (base:=w.heap.size)).updT hb85 u87).updT hb90 u92)⟩,⟨_,_,_,_,rfl,(((Zr.zero (w:=v79) (base:=w.heap.size)).updT hb85 u87).updT hb90 u92)⟩,rfl⟩,hw18⟩
set_option maxHeartbeats 4000000 in
theorem g_ref6_Crt_ok {w:World}{sa:Bool}{Aa:Option Addr}{na ca:Nat}{x:Int}{sb:Bool}{Ab:Option Addr}{nb cb:Nat}{m:Int}{sf:Bool}{Af:Option Addr}{nf cf:Nat}{y:Int}{sd:Bool}{Ad:Option Addr}{nd cd:Nat}{n:Int}{b:Nat}(hb:b≤w.heap.size) (hx:Zi w sa Aa na ca x) (la:na≤16777216) (hm:Zi w sb Ab nb cb m) (lb:nb≤16777216) (hy:Zi w sf Af nf cf y) (lf:nf≤16777216) (hn:Zi w sd Ad nd cd n) (ld:nd≤16777216) (hm0:m≠0) (hn0:n≠0){s:Int}(d1:m∣x-s) (d2:n∣y-s):
    Calls Tryz.prog 42 #[.agg #[.bool sa,.slice Aa na ca],.agg #[.bool sb,.slice Ab nb cb],.agg #[.bool sf,.slice Af nf cf],.agg #[.bool sd,.slice Ad nd cd]] w (Gv w (T3 (ZR b (s%(Int.lcm m n:Int))) (ZR b ((Int.lcm m n:Int))) (Is (.int .i64 0)))):=by
 refine Calls.mono (R:=Gv w (T3 (ZR w.heap.size (s%(Int.lcm m n:Int))) (ZR w.heap.size ((Int.lcm m n:Int))) (Is (.int .i64 0)))) ?_ (Gv.imp (T3.imp (ZR.imp hb) (ZR.imp hb) Is.imp))
 have Lx:ln x≤16777216:=Nat.le_trans hx.ln la
 have Lm:ln m≤16777216:=Nat.le_trans hm.ln lb
 have Ly:ln y≤16777216:=Nat.le_trans hy.ln lf
 have Ln:ln n≤16777216:=Nat.le_trans hn.ln ld
 refine sx_enter Tryz.func42 rfl (n:=94) rfl (bq rfl) (args:= [.agg #[.bool sa,.slice Aa na ca],.agg #[.bool sb,.slice Ab nb cb],.agg #[.bool sf,.slice Af nf cf],.agg #[.bool sd,.slice Ad nd cd]]) (cw_keep [(0,.agg #[.bool sa,.slice Aa na ca]),(1,.agg #[.bool sb,.slice Ab nb cb]),(2,.agg #[.bool sf,.slice Af nf cf]),(3,.agg #[.bool sd,.slice Ad nd cd])] ⟨rfl,rfl,rfl,rfl,trivial⟩ (sr (bx [.bool sa,.slice Aa na ca] (Ext.refl w) rfl rfl rfl fun g1 v2 hb4 ge5 e3 hw1=>(bxq [.bool sb,.slice Ab nb cb] hw1 hb4.lt rfl rfl rfl fun g6 v7 hb9 ge10 q11 e8 hw2=>(bxq [.bool sf,.slice Af nf cf] hw2 hb9.lt rfl rfl rfl fun g12 v13 hb15 ge16 q17 e14 hw3=>(bxq [.bool sd,.slice Ad nd cd] hw3 hb15.lt rfl rfl rfl fun g18 v19 hb21 ge22 q23 e20 hw4=>(alq [F0,S0] hw4 hb21.lt (fun _=>by kernel_rfl) rfl fun g24 v25 hb27 ge28 q29 e26 hw5=>(alq [F0,S0] hw5 hb27.lt (fun _=>by kernel_rfl) rfl fun g30 v31 hb33 ge34 q35 e32 hw6=>(mv 1 rfl (ne_ (cw_seq (sr (lo aggInt (hb9.ext (e14.trans (e20.trans (e26.trans e32)))) [.bool sb,.slice Ab nb cb] rfl rfl rfl ?_)))))))))))))
 refine cl (vs:= [.agg #[.bool sb,.slice Ab nb cb]]) hw6 (g_ref5_Sign (hm.ext hw6) (lx_ lb rfl)) rfl (by kernel_rfl) fun xr38 v36 r38 e37 hw7=>?_
 obtain rfl:=r38
 refine wl_cmp rfl rfl rfl false (scmp_eq_f hm0) (by decide) (mv 1 rfl (lo aggInt (hb21.ext (e26.trans (e32.trans e37))) [.bool sd,.slice Ad nd cd] rfl rfl rfl (cl (vs:= [.agg #[.bool sd,.slice Ad nd cd]]) hw7 (g_ref5_Sign (hn.ext hw7) (lx_ ld rfl)) rfl (by kernel_rfl) fun xr41 v39 r41 e40 hw8=>?_)))
 obtain rfl:=r41
 refine wl_cmp rfl rfl rfl false (scmp_eq_f hn0) (by decide) (pu (v:= .bool false) rfl (by kernel_rfl) (ne_ (cw_false rfl (cw_skip (eo_then (sr (lo aggInt (hb9.ext (e14.trans (e20.trans (e26.trans (e32.trans (e37.trans e40)))))) [.bool sb,.slice Ab nb cb] rfl rfl rfl (lo aggInt (hb21.ext (e26.trans (e32.trans (e37.trans e40)))) [.bool sd,.slice Ad nd cd] rfl rfl rfl ?_))))))))
 have L42:ln ((Int.gcd m n:Int))≤16777216:=Nat.le_trans (ln_gcd _ _) (Nat.max_le.2 ⟨Nat.le_trans Lm (by decide),Nat.le_trans Ln (by decide)⟩)
 refine cl (vs:= [.agg #[.bool sb,.slice Ab nb cb],.agg #[.bool sd,.slice Ad nd cd]]) hw8 (g_ref6_Gcd hw8.size (hm.ext hw8) (lx_ lb rfl) (hn.ext hw8) (lx_ ld rfl)) rfl (by kernel_rfl) fun xr45 v43 r45 e44 hw9=>?_
 obtain⟨s46,A46,n46,c46,rfl,z46⟩:=r45
 refine alq [F0,S0] hw9 (hb33.ext (e37.trans (e40.trans e44))).lt (fun _=>by kernel_rfl) rfl fun g47 v48 hb50 ge51 q52 e49 hw10=>(so aggInt hb50 [.bool s46,.slice A46 n46 c46] hw10 ge51 rfl rfl rfl rfl fun v53 hb55 u56 hw11=>(ne_ (sr (lo aggInt ((hb15.ext (e20.trans (e26.trans (e32.trans (e37.trans (e40.trans (e44.trans e49))))))).updN u56 (by omega)) [.bool sf,.slice Af nf cf] rfl rfl rfl (lo aggInt ((hb4.ext (e8.trans (e14.trans (e20.trans (e26.trans (e32.trans (e37.trans (e40.trans (e44.trans e49))))))))).updN u56 (by omega)) [.bool sa,.slice Aa na ca] rfl rfl rfl ?_)))))
 have L58:ln (y-x)≤16777217:=Nat.le_trans (ln_sub Ly Lx) (by decide)
 refine cl (vs:= [.agg #[.bool sf,.slice Af nf cf],.agg #[.bool sa,.slice Aa na ca]]) hw11 (g_ref5_Sub hw11.size (hy.ext hw11) (lx_ lf rfl) (hx.ext hw11) (lx_ la rfl)) rfl (by kernel_rfl) fun xr61 v59 r61 e60 hw12=>?_
 obtain⟨s62,A62,n62,c62,rfl,z62⟩:=r61
 refine alq [F0,S0] hw12 (hb55.ext e60).lt (fun _=>by kernel_rfl) rfl fun g63 v64 hb66 ge67 q68 e65 hw13=>(so aggInt hb66 [.bool s62,.slice A62 n62 c62] hw13 ge67 rfl rfl rfl rfl fun v69 hb71 u72 hw14=>(ne_ (sr (lo aggInt hb71 [.bool s62,.slice A62 n62 c62] rfl rfl rfl (lo aggInt ((hb55.ext (e60.trans e65)).updN u72 (by omega)) [.bool s46,.slice A46 n46 c46] rfl rfl rfl ?_)))))
 have L74:ln ((y-x).tdiv (Int.gcd m n:Int))≤16777217:=Nat.le_trans (ln_tdiv _ _) L58
 refine cl (vs:= [.agg #[.bool s62,.slice A62 n62 c62],.agg #[.bool s46,.slice A46 n46 c46]]) hw14 (g_ref5_Exact_ok hw14.size ((z62.ext e65).updT hb66 u72).zi (z62.le (lx_ L58 rfl)) ((((z46.ext e49).updT hb50 u56).ext (e60.trans e65)).updT hb66 u72).zi (z46.le (lx_ L42 rfl)) (gcd_ne_l hm0) (mod_of_dvd (crt_dvd d1 d2))) rfl (by kernel_rfl) fun xr77 v75 r77 e76 hw15=>?_
 obtain⟨_,_,rfl,⟨s79,A79,n79,c79,rfl,z79⟩,rfl⟩:=r77
 refine mv 1 rfl (pu (v:= .agg #[.bool s79,.slice A79 n79 c79]) rfl (by kernel_rfl) (pu (v:= .int .i64 0) rfl (by kernel_rfl) ?_))
 have hb81:=(hb71.ext e76)
 refine so aggInt hb81 [.bool s79,.slice A79 n79 c79] hw15 ge67 rfl rfl rfl rfl fun v80 hb82 u83 hw16=>(mv 1 rfl (ne_ (cw_seq (sr (mv 1 rfl (pu (v:= .bool false) rfl (by kernel_rfl) (ne_ (cw_false rfl (cw_skip (eo_then (cw_seq ?_)))))))))))
 have HC:=crt6_pre hm0 hn0
 have L85:ln ((Int.natAbs m:Int))≤16777216:=(by rw [ln_abs];exact Lm)
 have L87:ln ((Int.natAbs m:Int).tdiv (Int.gcd m n:Int))≤16777216:=Nat.le_trans (ln_tdiv _ _) L85
 refine cw_draw mix 8 [5,6] [Is (.agg #[.bool sb,.slice Ab nb cb]),ZR w.heap.size ((Int.natAbs m:Int)),Is (.agg #[.bool s46,.slice A46 n46 c46]),T2 (ZR w.heap.size ((Int.natAbs m:Int).tdiv (Int.gcd m n:Int))) (Is (.int .i64 0)),T2 (ZR w.heap.size ((Int.natAbs m:Int).tdiv (Int.gcd m n:Int))) (Is (.int .i64 0)),ZR w.heap.size ((Int.natAbs m:Int).tdiv (Int.gcd m n:Int)),Is (.int .i64 0),PR v80.heap.size 27 [F0,S0]] [[],[0],[],[1,2],[3],[4],[4],[]] [[],[0],[],[0,1,2],[0,1,2,3],[0,1,2,3,4],[0,1,2,3,4],[],[0,1,2,3,4,5,7],[0,1,2,3,4,5,6,7,8]] rfl
  (obs_cons rfl rfl (hob rfl rfl ?_) (obs_cons rfl rfl (hob rfl rfl ?_) (obs_cons rfl rfl (hob rfl rfl ?_) (obs_cons rfl rfl (hob rfl rfl ?_) (obs_cons rfl rfl (hob rfl rfl ?_) (obs_float rfl rfl (fob rfl ?_) (obs_float rfl rfl (fob rfl ?_) (obs_cons rfl rfl (hob rfl rfl ?_) obs_nil)))))))) ?_
 · 
  exact fun _ e94=>deps_nil (lo aggInt (((((((hb9.ext (e14.trans (e20.trans (e26.trans (e32.trans (e37.trans (e40.trans (e44.trans e49)))))))).updN u56 (by omega)).ext (e60.trans e65)).updN u72 (by omega)).ext e76).updN u83 (by omega)).ext e94) [.bool sb,.slice Ab nb cb] rfl rfl rfl (pi_done rfl (Ext.refl _) rfl))
 · 
  intro v95 e96
  have hw17:=hw16.trans e96
  refine dk rfl rfl (deps_nil ?_)
  have L102:ln ((Int.natAbs m:Int))≤16777216:=(by rw [ln_abs];exact Lm)
  refine cl (vs:= [.agg #[.bool sb,.slice Ab nb cb]]) hw17 (g_ref5_Abs hw17.size (hm.ext hw17) (lx_ lb rfl)) rfl (by kernel_rfl) fun xr105 v103 r105 e104 hw18=>?_
  obtain⟨s106,A106,n106,c106,rfl,z106⟩:=r105
  exact pi_done rfl e104 ⟨_,_,_,_,rfl,z106⟩
 · 
  exact fun _ e108=>deps_nil (lo aggInt (((((hb55.ext (e60.trans e65)).updN u72 (by omega)).ext e76).updN u83 (by omega)).ext e108) [.bool s46,.slice A46 n46 c46] rfl rfl rfl (pi_done rfl (Ext.refl _) rfl))
 · 
  intro v109 e110
  have hw17:=hw16.trans e110
  refine deps_cons rfl rfl fun x111 y112 h113 e114 f115=>?_
  obtain⟨s116,A116,n116,c116,rfl,z116⟩:=h113
  have z116:=z116.ext f115
  refine dk rfl rfl (deps_nil ?_)
  have L122:ln ((Int.natAbs m:Int).tdiv (Int.gcd m n:Int))≤16777216:=Nat.le_trans (ln_tdiv _ _) L85
  refine cl (vs:= [.agg #[.bool s116,.slice A116 n116 c116],.agg #[.bool s46,.slice A46 n46 c46]]) hw17 (g_ref5_Exact_ok hw17.size z116.zi (z116.le (lx_ L85 rfl)) (((((((z46.ext e49).updT hb50 u56).ext (e60.trans e65)).updT hb66 u72).ext e76).updT hb81 u83).ext e110).zi (z46.le (lx_ L42 rfl)) (gcd_ne_l hm0) (abs_mod0 (Int.gcd_dvd_left m n))) rfl (by kernel_rfl) fun xr125 v123 r125 e124 hw18=>?_
  obtain⟨_,_,rfl,⟨s127,A127,n127,c127,rfl,z127⟩,rfl⟩:=r125
  exact pi_done rfl e124 ⟨_,_,rfl,⟨_,_,_,_,rfl,z127⟩,rfl⟩
 · 
  intro v128 e129
  refine deps_cons rfl rfl fun x130 y131 h132 e133 f134=>?_
  obtain⟨_,_,rfl,⟨s136,A136,n136,c136,rfl,z136⟩,rfl⟩:=h132
  have z136:=z136.ext f134
  refine deps_nil (mv 1 rfl ?_)
  exact pi_done rfl (Ext.refl _) ⟨_,_,rfl,⟨_,_,_,_,rfl,z136⟩,rfl⟩
 · 
  intro v137 e138
  refine deps_cons rfl rfl fun x139 y140 h141 e142 f143=>?_
  obtain⟨_,_,rfl,⟨s145,A145,n145,c145,rfl,z145⟩,rfl⟩:=h141
  have z145:=z145.ext f143
  refine deps_nil ?_
  exact⟨.agg #[.bool s145,.slice A145 n145 c145],rfl,rfl,fun _=>by kernel_rfl,⟨_,_,_,_,rfl,z145⟩⟩
 · 
  intro v146 e147
  refine deps_cons rfl rfl fun x148 y149 h150 e151 f152=>?_
  obtain⟨_,_,rfl,⟨s154,A154,n154,c154,rfl,z154⟩,rfl⟩:=h150
  have z154:=z154.ext f152
  refine deps_nil ?_
  exact⟨.int .i64 0,rfl,rfl,fun _=>by kernel_rfl,rfl⟩
 · 
  intro v155 e156
  refine deps_nil (wl_alloc rfl (z:= .agg #[F0,S0]) (vs:= [F0,S0]) (fun _=>by kernel_rfl) rfl (by decide) fun g157 v158 nb=>?_)
  exact pi_done rfl nb.ext ⟨_,rfl,by rw [←nb.at_];exact e156.size,nb.bk⟩
 · 
  intro v159 e160
  have hw17:=hw16.trans e160
  refine dk rfl rfl (deps_cons rfl rfl fun x166 y167 h168 e169 f170=>?_)
  obtain⟨s171,A171,n171,c171,rfl,z171⟩:=h168
  have z171:=z171.ext f170
  refine dk rfl rfl (deps_cons rfl rfl fun x177 y178 h179 e180 f181=>?_)
  obtain⟨_,_,rfl,⟨s183,A183,n183,c183,rfl,z183⟩,rfl⟩:=h179
  have z183:=z183.ext f181
  refine deps_cons rfl rfl fun x184 y185 h186 e187 f188=>?_
  obtain⟨_,_,rfl,⟨s190,A190,n190,c190,rfl,z190⟩,rfl⟩:=h186
  have z190:=z190.ext f188
  refine deps_cons rfl rfl fun x191 y192 h193 e194 f195=>?_
  obtain⟨s196,A196,n196,c196,rfl,z196⟩:=h193
  have z196:=z196.ext f195
  refine dk rfl rfl (deps_cons rfl rfl fun x202 y203 h204 e205 f206=>?_)
  obtain⟨g207,rfl,ge209,hb208⟩:=h204
  have hb208:=hb208.ext f206
  have q210:g63<g207:=Nat.lt_of_lt_of_le hb82.lt ge209
  have ge209:w.heap.size≤g207:=Nat.le_trans hw16.size ge209
  refine deps_nil (so aggInt hb208 [.bool s196,.slice A196 n196 c196] hw17 ge209 rfl rfl rfl rfl fun v211 hb213 u214 hw18=>(mv 1 rfl (wl_nil (eo_np (eo_then (cw_seq ?_))))))
  have L216:ln ((Int.natAbs n:Int))≤16777216:=(by rw [ln_abs];exact Ln)
  have L218:ln ((Int.natAbs n:Int).tdiv (Int.gcd m n:Int))≤16777216:=Nat.le_trans (ln_tdiv _ _) L216
  refine cw_draw mix 8 [5,6] [Is (.agg #[.bool sd,.slice Ad nd cd]),ZR w.heap.size ((Int.natAbs n:Int)),Is (.agg #[.bool s46,.slice A46 n46 c46]),T2 (ZR w.heap.size ((Int.natAbs n:Int).tdiv (Int.gcd m n:Int))) (Is (.int .i64 0)),T2 (ZR w.heap.size ((Int.natAbs n:Int).tdiv (Int.gcd m n:Int))) (Is (.int .i64 0)),ZR w.heap.size ((Int.natAbs n:Int).tdiv (Int.gcd m n:Int)),Is (.int .i64 0),PR v211.heap.size 27 [F0,S0]] [[],[0],[],[1,2],[3],[4],[4],[]] [[],[0],[],[0,1,2],[0,1,2,3],[0,1,2,3,4],[0,1,2,3,4],[],[0,1,2,3,4,5,7],[0,1,2,3,4,5,6,7,8]] rfl
   (obs_cons rfl rfl (hob rfl rfl ?_) (obs_cons rfl rfl (hob rfl rfl ?_) (obs_cons rfl rfl (hob rfl rfl ?_) (obs_cons rfl rfl (hob rfl rfl ?_) (obs_cons rfl rfl (hob rfl rfl ?_) (obs_float rfl rfl (fob rfl ?_) (obs_float rfl rfl (fob rfl ?_) (obs_cons rfl rfl (hob rfl rfl ?_) obs_nil)))))))) ?_
  · 
   exact fun _ e225=>deps_nil (lo aggInt (((((((((hb21.ext (e26.trans (e32.trans (e37.trans (e40.trans (e44.trans e49)))))).updN u56 (by omega)).ext (e60.trans e65)).updN u72 (by omega)).ext e76).updN u83 (by omega)).ext e160).updN u214 (by omega)).ext e225) [.bool sd,.slice Ad nd cd] rfl rfl rfl (pi_done rfl (Ext.refl _) rfl))
  · 
   intro v226 e227
   have hw19:=hw18.trans e227
   refine dk rfl rfl (deps_nil ?_)
   have L233:ln ((Int.natAbs n:Int))≤16777216:=(by rw [ln_abs];exact Ln)
   refine cl (vs:= [.agg #[.bool sd,.slice Ad nd cd]]) hw19 (g_ref5_Abs hw19.size (hn.ext hw19) (lx_ ld rfl)) rfl (by kernel_rfl) fun xr236 v234 r236 e235 hw20=>?_
   obtain⟨s237,A237,n237,c237,rfl,z237⟩:=r236
   exact pi_done rfl e235 ⟨_,_,_,_,rfl,z237⟩
  · 
   exact fun _ e239=>deps_nil (lo aggInt (((((((hb55.ext (e60.trans e65)).updN u72 (by omega)).ext e76).updN u83 (by omega)).ext e160).updN u214 (by omega)).ext e239) [.bool s46,.slice A46 n46 c46] rfl rfl rfl (pi_done rfl (Ext.refl _) rfl))
  · 
   intro v240 e241
   have hw19:=hw18.trans e241
   refine deps_cons rfl rfl fun x242 y243 h244 e245 f246=>?_
   obtain⟨s247,A247,n247,c247,rfl,z247⟩:=h244
   have z247:=z247.ext f246
   refine dk rfl rfl (deps_nil ?_)
   have L253:ln ((Int.natAbs n:Int).tdiv (Int.gcd m n:Int))≤16777216:=Nat.le_trans (ln_tdiv _ _) L216
   refine cl (vs:= [.agg #[.bool s247,.slice A247 n247 c247],.agg #[.bool s46,.slice A46 n46 c46]]) hw19 (g_ref5_Exact_ok hw19.size z247.zi (z247.le (lx_ L216 rfl)) (((((((((z46.ext e49).updT hb50 u56).ext (e60.trans e65)).updT hb66 u72).ext e76).updT hb81 u83).ext e160).updT hb208 u214).ext e241).zi (z46.le (lx_ L42 rfl)) (gcd_ne_l hm0) (abs_mod0 (Int.gcd_dvd_right m n))) rfl (by kernel_rfl) fun xr256 v254 r256 e255 hw20=>?_
   obtain⟨_,_,rfl,⟨s258,A258,n258,c258,rfl,z258⟩,rfl⟩:=r256
   exact pi_done rfl e255 ⟨_,_,rfl,⟨_,_,_,_,rfl,z258⟩,rfl⟩
  · 
   intro v259 e260
   refine deps_cons rfl rfl fun x261 y262 h263 e264 f265=>?_
   obtain⟨_,_,rfl,⟨s267,A267,n267,c267,rfl,z267⟩,rfl⟩:=h263
   have z267:=z267.ext f265
   refine deps_nil (mv 1 rfl ?_)
   exact pi_done rfl (Ext.refl _) ⟨_,_,rfl,⟨_,_,_,_,rfl,z267⟩,rfl⟩
  · 
   intro v268 e269
   refine deps_cons rfl rfl fun x270 y271 h272 e273 f274=>?_
   obtain⟨_,_,rfl,⟨s276,A276,n276,c276,rfl,z276⟩,rfl⟩:=h272
   have z276:=z276.ext f274
   refine deps_nil ?_
   exact⟨.agg #[.bool s276,.slice A276 n276 c276],rfl,rfl,fun _=>by kernel_rfl,⟨_,_,_,_,rfl,z276⟩⟩
  · 
   intro v277 e278
   refine deps_cons rfl rfl fun x279 y280 h281 e282 f283=>?_
   obtain⟨_,_,rfl,⟨s285,A285,n285,c285,rfl,z285⟩,rfl⟩:=h281
   have z285:=z285.ext f283
   refine deps_nil ?_
   exact⟨.int .i64 0,rfl,rfl,fun _=>by kernel_rfl,rfl⟩
  · 
   intro v286 e287
   refine deps_nil (wl_alloc rfl (z:= .agg #[F0,S0]) (vs:= [F0,S0]) (fun _=>by kernel_rfl) rfl (by decide) fun g288 v289 nb=>?_)
   exact pi_done rfl nb.ext ⟨_,rfl,by rw [←nb.at_];exact e287.size,nb.bk⟩
  · 
   intro v290 e291
   have hw19:=hw18.trans e291
   refine dk rfl rfl (deps_cons rfl rfl fun x297 y298 h299 e300 f301=>?_)
   obtain⟨s302,A302,n302,c302,rfl,z302⟩:=h299
   have z302:=z302.ext f301
   refine dk rfl rfl (deps_cons rfl rfl fun x308 y309 h310 e311 f312=>?_)
   obtain⟨_,_,rfl,⟨s314,A314,n314,c314,rfl,z314⟩,rfl⟩:=h310
   have z314:=z314.ext f312
   refine deps_cons rfl rfl fun x315 y316 h317 e318 f319=>?_
   obtain⟨_,_,rfl,⟨s321,A321,n321,c321,rfl,z321⟩,rfl⟩:=h317
   have z321:=z321.ext f319
   refine deps_cons rfl rfl fun x322 y323 h324 e325 f326=>?_
   obtain⟨s327,A327,n327,c327,rfl,z327⟩:=h324
   have z327:=z327.ext f326
   refine dk rfl rfl (deps_cons rfl rfl fun x333 y334 h335 e336 f337=>?_)
   obtain⟨g338,rfl,ge340,hb339⟩:=h335
   have hb339:=hb339.ext f337
   have q341:g207<g338:=Nat.lt_of_lt_of_le hb213.lt ge340
   have ge340:w.heap.size≤g338:=Nat.le_trans hw18.size ge340
   refine deps_nil (so aggInt hb339 [.bool s327,.slice A327 n327 c327] hw19 ge340 rfl rfl rfl rfl fun v342 hb344 u345 hw20=>(mv 1 rfl (wl_nil (eo_np (eo_then (sr (lo aggInt ((hb213.ext e291).updN u345 (by omega)) [.bool s196,.slice A196 n196 c196] rfl rfl rfl (lo aggInt hb344 [.bool s327,.slice A327 n327 c327] rfl rfl rfl (wl_call rfl rfl (vs:= [.agg #[.bool s196,.slice A196 n196 c196],.agg #[.bool s327,.slice A327 n327 c327]]) (by kernel_rfl) (by decide) (g_ref6_Inverse_ok hw20.size (((z196.updT hb208 u214).ext e291).updT hb339 u345).zi (z196.le (lx_ L87 rfl)) (z327.updT hb339 u345).zi (z327.le (lx_ L218 rfl)) HC.1 HC.2) ?_)))))))))
   rintro _ v347 ⟨u350,v351,p352,xr349,rfl,r349,e348⟩
   have L353:ln (u350)≤16777217:=(p352.ln_u L87 L218)
   refine ret_intro ?_
   have hw21:=hw20.trans e348
   obtain⟨_,_,rfl,⟨s355,A355,n355,c355,rfl,z355⟩,rfl⟩:=r349
   refine mv 1 rfl (pu (v:= .agg #[.bool s355,.slice A355 n355 c355]) rfl (by kernel_rfl) (pu (v:= .int .i64 0) rfl (by kernel_rfl) (alq [F0,S0] hw21 (hb344.ext e348).lt (fun _=>by kernel_rfl) rfl fun g356 v357 hb359 ge360 q361 e358 hw22=>(so aggInt hb359 [.bool s355,.slice A355 n355 c355] hw22 ge360 rfl rfl rfl rfl fun v362 hb364 u365 hw23=>(mv 1 rfl (ne_ (sr (lo aggInt ((((((hb82.ext e160).updN u214 (by omega)).ext e291).updN u345 (by omega)).ext (e348.trans e358)).updN u365 (by omega)) [.bool s79,.slice A79 n79 c79] rfl rfl rfl (lo aggInt hb364 [.bool s355,.slice A355 n355 c355] rfl rfl rfl ?_)))))))))
   have L367:ln (((y-x).tdiv (Int.gcd m n:Int))*u350)≤33554434:=Nat.le_trans (ln_mul L74 L353) (by decide)
   refine cl (vs:= [.agg #[.bool s79,.slice A79 n79 c79],.agg #[.bool s355,.slice A355 n355 c355]]) hw23 (g_ref5_Mul hw23.size (((((((z79.updT hb81 u83).ext e160).updT hb208 u214).ext e291).updT hb339 u345).ext (e348.trans e358)).updT hb359 u365).zi (z79.le (lx_ L74 rfl)) ((z355.ext e358).updT hb359 u365).zi (z355.le (lx_ L353 rfl))) rfl (by kernel_rfl) fun xr370 v368 r370 e369 hw24=>?_
   obtain⟨s371,A371,n371,c371,rfl,z371⟩:=r370
   refine alq [F0,S0] hw24 (hb364.ext e369).lt (fun _=>by kernel_rfl) rfl fun g372 v373 hb375 ge376 q377 e374 hw25=>(so aggInt hb375 [.bool s371,.slice A371 n371 c371] hw25 ge376 rfl rfl rfl rfl fun v378 hb380 u381 hw26=>(ne_ (sr (lo aggInt hb380 [.bool s371,.slice A371 n371 c371] rfl rfl rfl (lo aggInt ((((hb344.ext (e348.trans e358)).updN u365 (by omega)).ext (e369.trans e374)).updN u381 (by omega)) [.bool s327,.slice A327 n327 c327] rfl rfl rfl ?_)))))
   have L383:ln ((((y-x).tdiv (Int.gcd m n:Int))*u350)%((Int.natAbs n:Int).tdiv (Int.gcd m n:Int)))≤16777216:=Nat.le_trans (ln_emod HC.1) L218
   refine cl (vs:= [.agg #[.bool s371,.slice A371 n371 c371],.agg #[.bool s327,.slice A327 n327 c327]]) hw26 (k_ref5_Mod hw26.size ((z371.ext e374).updT hb375 u381).zi (z371.le (lx_ L367 rfl)) (((((z327.updT hb339 u345).ext (e348.trans e358)).updT hb359 u365).ext (e369.trans e374)).updT hb375 u381).zi (z327.le (lx_ L218 rfl)) HC.1) rfl (by kernel_rfl) fun xr386 v384 r386 e385 hw27=>?_
   obtain⟨_,_,rfl,⟨s388,A388,n388,c388,rfl,z388⟩,rfl⟩:=r386
   refine mv 1 rfl (pu (v:= .agg #[.bool s388,.slice A388 n388 c388]) rfl (by kernel_rfl) (pu (v:= .int .i64 0) rfl (by kernel_rfl) ?_))
   have hb390:=(hb380.ext e385)
   refine so aggInt hb390 [.bool s388,.slice A388 n388 c388] hw27 ge376 rfl rfl rfl rfl fun v389 hb391 u392 hw28=>(ne_ (cw_seq ?_))
   have L394:ln ((Int.natAbs m:Int))≤16777216:=(by rw [ln_abs];exact Lm)
   have L396:ln ((Int.natAbs m:Int)*((Int.natAbs n:Int).tdiv (Int.gcd m n:Int)))≤33554432:=Nat.le_trans (ln_mul L394 L218) (by decide)
   refine cw_draw mix 4 [] [Is (.agg #[.bool sb,.slice Ab nb cb]),ZR w.heap.size ((Int.natAbs m:Int)),Is (.agg #[.bool s327,.slice A327 n327 c327]),ZR w.heap.size ((Int.natAbs m:Int)*((Int.natAbs n:Int).tdiv (Int.gcd m n:Int)))] [[],[0],[],[1,2]] [[],[0],[],[0,1,2],[0,1,2,3]] rfl
    (obs_cons rfl rfl (hob rfl rfl ?_) (obs_cons rfl rfl (hob rfl rfl ?_) (obs_cons rfl rfl (hob rfl rfl ?_) (obs_cons rfl rfl (hob rfl rfl ?_) obs_nil)))) ?_
   · 
    exact fun _ e399=>deps_nil (lo aggInt (((((((((((((((((hb9.ext (e14.trans (e20.trans (e26.trans (e32.trans (e37.trans (e40.trans (e44.trans e49)))))))).updN u56 (by omega)).ext (e60.trans e65)).updN u72 (by omega)).ext e76).updN u83 (by omega)).ext e160).updN u214 (by omega)).ext e291).updN u345 (by omega)).ext (e348.trans e358)).updN u365 (by omega)).ext (e369.trans e374)).updN u381 (by omega)).ext e385).updN u392 (by omega)).ext e399) [.bool sb,.slice Ab nb cb] rfl rfl rfl (pi_done rfl (Ext.refl _) rfl))
   · 
    intro v400 e401
    have hw29:=hw28.trans e401
    refine dk rfl rfl (deps_nil ?_)
    have L407:ln ((Int.natAbs m:Int))≤16777216:=(by rw [ln_abs];exact Lm)
    refine cl (vs:= [.agg #[.bool sb,.slice Ab nb cb]]) hw29 (g_ref5_Abs hw29.size (hm.ext hw29) (lx_ lb rfl)) rfl (by kernel_rfl) fun xr410 v408 r410 e409 hw30=>?_
    obtain⟨s411,A411,n411,c411,rfl,z411⟩:=r410
    exact pi_done rfl e409 ⟨_,_,_,_,rfl,z411⟩
   · 
    exact fun _ e413=>deps_nil (lo aggInt (((((((hb344.ext (e348.trans e358)).updN u365 (by omega)).ext (e369.trans e374)).updN u381 (by omega)).ext e385).updN u392 (by omega)).ext e413) [.bool s327,.slice A327 n327 c327] rfl rfl rfl (pi_done rfl (Ext.refl _) rfl))
   · 
    intro v414 e415
    have hw29:=hw28.trans e415
    refine deps_cons rfl rfl fun x416 y417 h418 e419 f420=>?_
    obtain⟨s421,A421,n421,c421,rfl,z421⟩:=h418
    have z421:=z421.ext f420
    refine dk rfl rfl (deps_nil ?_)
    have L427:ln ((Int.natAbs m:Int)*((Int.natAbs n:Int).tdiv (Int.gcd m n:Int)))≤33554432:=Nat.le_trans (ln_mul L394 L218) (by decide)
    refine cl (vs:= [.agg #[.bool s421,.slice A421 n421 c421],.agg #[.bool s327,.slice A327 n327 c327]]) hw29 (g_ref5_Mul hw29.size z421.zi (z421.le (lx_ L394 rfl)) ((((((((z327.updT hb339 u345).ext (e348.trans e358)).updT hb359 u365).ext (e369.trans e374)).updT hb375 u381).ext e385).updT hb390 u392).ext e415).zi (z327.le (lx_ L218 rfl))) rfl (by kernel_rfl) fun xr430 v428 r430 e429 hw30=>?_
    obtain⟨s431,A431,n431,c431,rfl,z431⟩:=r430
    exact pi_done rfl e429 ⟨_,_,_,_,rfl,z431⟩
   · 
    intro v432 e433
    have hw29:=hw28.trans e433
    refine dk rfl rfl (deps_cons rfl rfl fun x439 y440 h441 e442 f443=>?_)
    obtain⟨s444,A444,n444,c444,rfl,z444⟩:=h441
    have z444:=z444.ext f443
    refine dk rfl rfl (deps_cons rfl rfl fun x450 y451 h452 e453 f454=>?_)
    obtain⟨s455,A455,n455,c455,rfl,z455⟩:=h452
    have z455:=z455.ext f454
    refine deps_nil ?_
    have hb457:=(((((((((((((((((hb33.ext (e37.trans (e40.trans (e44.trans e49)))).updN u56 (by omega)).ext (e60.trans e65)).updN u72 (by omega)).ext e76).updN u83 (by omega)).ext e160).updN u214 (by omega)).ext e291).updN u345 (by omega)).ext (e348.trans e358)).updN u365 (by omega)).ext (e369.trans e374)).updN u381 (by omega)).ext e385).updN u392 (by omega)).ext e433)
    refine so aggInt hb457 [.bool s455,.slice A455 n455 c455] hw29 ge34 rfl rfl rfl rfl fun v456 hb458 u459 hw30=>(wl_nil (eo_np (eo_then (cw_seq ?_))))
    have L461:ln ((Int.natAbs m:Int))≤16777216:=(by rw [ln_abs];exact Lm)
    have L463:ln (((((y-x).tdiv (Int.gcd m n:Int))*u350)%((Int.natAbs n:Int).tdiv (Int.gcd m n:Int)))*(Int.natAbs m:Int))≤33554432:=Nat.le_trans (ln_mul L383 L461) (by decide)
    refine cw_draw mix 4 [] [Is (.agg #[.bool s388,.slice A388 n388 c388]),Is (.agg #[.bool sb,.slice Ab nb cb]),ZR w.heap.size ((Int.natAbs m:Int)),ZR w.heap.size (((((y-x).tdiv (Int.gcd m n:Int))*u350)%((Int.natAbs n:Int).tdiv (Int.gcd m n:Int)))*(Int.natAbs m:Int))] [[],[],[1],[0,2]] [[],[],[1],[0,1,2],[0,1,2,3]] rfl
     (obs_cons rfl rfl (hob rfl rfl ?_) (obs_cons rfl rfl (hob rfl rfl ?_) (obs_cons rfl rfl (hob rfl rfl ?_) (obs_cons rfl rfl (hob rfl rfl ?_) obs_nil)))) ?_
    · 
     exact fun _ e466=>deps_nil (lo aggInt (((hb391.ext e433).updN u459 (by omega)).ext e466) [.bool s388,.slice A388 n388 c388] rfl rfl rfl (pi_done rfl (Ext.refl _) rfl))
    · 
     exact fun _ e468=>deps_nil (lo aggInt (((((((((((((((((((hb9.ext (e14.trans (e20.trans (e26.trans (e32.trans (e37.trans (e40.trans (e44.trans e49)))))))).updN u56 (by omega)).ext (e60.trans e65)).updN u72 (by omega)).ext e76).updN u83 (by omega)).ext e160).updN u214 (by omega)).ext e291).updN u345 (by omega)).ext (e348.trans e358)).updN u365 (by omega)).ext (e369.trans e374)).updN u381 (by omega)).ext e385).updN u392 (by omega)).ext e433).updN u459 (by omega)).ext e468) [.bool sb,.slice Ab nb cb] rfl rfl rfl (pi_done rfl (Ext.refl _) rfl))
    · 
     intro v469 e470
     have hw31:=hw30.trans e470
     refine dk rfl rfl (deps_nil ?_)
     have L476:ln ((Int.natAbs m:Int))≤16777216:=(by rw [ln_abs];exact Lm)
     refine cl (vs:= [.agg #[.bool sb,.slice Ab nb cb]]) hw31 (g_ref5_Abs hw31.size (hm.ext hw31) (lx_ lb rfl)) rfl (by kernel_rfl) fun xr479 v477 r479 e478 hw32=>?_
     obtain⟨s480,A480,n480,c480,rfl,z480⟩:=r479
     exact pi_done rfl e478 ⟨_,_,_,_,rfl,z480⟩
    · 
     intro v481 e482
     have hw31:=hw30.trans e482
     refine dk rfl rfl (deps_cons rfl rfl fun x488 y489 h490 e491 f492=>?_)
     obtain⟨s493,A493,n493,c493,rfl,z493⟩:=h490
     have z493:=z493.ext f492
     refine deps_nil ?_
     have L494:ln (((((y-x).tdiv (Int.gcd m n:Int))*u350)%((Int.natAbs n:Int).tdiv (Int.gcd m n:Int)))*(Int.natAbs m:Int))≤33554432:=Nat.le_trans (ln_mul L383 L461) (by decide)
     refine cl (vs:= [.agg #[.bool s388,.slice A388 n388 c388],.agg #[.bool s493,.slice A493 n493 c493]]) hw31 (g_ref5_Mul hw31.size ((((z388.updT hb390 u392).ext e433).updT hb457 u459).ext e482).zi (z388.le (lx_ L383 rfl)) z493.zi (z493.le (lx_ L461 rfl))) rfl (by kernel_rfl) fun xr497 v495 r497 e496 hw32=>?_
     obtain⟨s498,A498,n498,c498,rfl,z498⟩:=r497
     exact pi_done rfl e496 ⟨_,_,_,_,rfl,z498⟩
    · 
     intro v499 e500
     have hw31:=hw30.trans e500
     refine dk rfl rfl (dk rfl rfl (deps_cons rfl rfl fun x511 y512 h513 e514 f515=>?_))
     obtain⟨s516,A516,n516,c516,rfl,z516⟩:=h513
     have z516:=z516.ext f515
     refine deps_cons rfl rfl fun x517 y518 h519 e520 f521=>?_
     obtain⟨s522,A522,n522,c522,rfl,z522⟩:=h519
     have z522:=z522.ext f521
     refine deps_nil ?_
     have hb524:=(((hb391.ext e433).updN u459 (by omega)).ext e500)
     refine so aggInt hb524 [.bool s522,.slice A522 n522 c522] hw31 ge376 rfl rfl rfl rfl fun v523 hb525 u526 hw32=>(wl_nil (eo_np (eo_then (cw_seq ?_))))
     have L528:ln (x+(((((y-x).tdiv (Int.gcd m n:Int))*u350)%((Int.natAbs n:Int).tdiv (Int.gcd m n:Int)))*(Int.natAbs m:Int)))≤33554433:=Nat.le_trans (ln_add Lx L463) (by decide)
     have L530:ln ((x+(((((y-x).tdiv (Int.gcd m n:Int))*u350)%((Int.natAbs n:Int).tdiv (Int.gcd m n:Int)))*(Int.natAbs m:Int)))%((Int.natAbs m:Int)*((Int.natAbs n:Int).tdiv (Int.gcd m n:Int))))≤33554432:=Nat.le_trans (ln_emod (crt6_mne hm0 HC.1)) L396
     refine cw_draw mix 8 [6,7] [Is (.agg #[.bool sa,.slice Aa na ca]),Is (.agg #[.bool s522,.slice A522 n522 c522]),ZR w.heap.size (x+(((((y-x).tdiv (Int.gcd m n:Int))*u350)%((Int.natAbs n:Int).tdiv (Int.gcd m n:Int)))*(Int.natAbs m:Int))),Is (.agg #[.bool s455,.slice A455 n455 c455]),T2 (ZR w.heap.size ((x+(((((y-x).tdiv (Int.gcd m n:Int))*u350)%((Int.natAbs n:Int).tdiv (Int.gcd m n:Int)))*(Int.natAbs m:Int)))%((Int.natAbs m:Int)*((Int.natAbs n:Int).tdiv (Int.gcd m n:Int))))) (Is (.int .i64 0)),T2 (ZR w.heap.size ((x+(((((y-x).tdiv (Int.gcd m n:Int))*u350)%((Int.natAbs n:Int).tdiv (Int.gcd m n:Int)))*(Int.natAbs m:Int)))%((Int.natAbs m:Int)*((Int.natAbs n:Int).tdiv (Int.gcd m n:Int))))) (Is (.int .i64 0)),ZR w.heap.size ((x+(((((y-x).tdiv (Int.gcd m n:Int))*u350)%((Int.natAbs n:Int).tdiv (Int.gcd m n:Int)))*(Int.natAbs m:Int)))%((Int.natAbs m:Int)*((Int.natAbs n:Int).tdiv (Int.gcd m n:Int)))),Is (.int .i64 0)] [[],[],[0,1],[],[2,3],[4],[5],[5]] [[],[],[0,1],[],[0,1,2,3],[0,1,2,3,4],[0,1,2,3,4,5],[0,1,2,3,4,5],[0,1,2,3,4,5,6]] rfl
      (obs_cons rfl rfl (hob rfl rfl ?_) (obs_cons rfl rfl (hob rfl rfl ?_) (obs_cons rfl rfl (hob rfl rfl ?_) (obs_cons rfl rfl (hob rfl rfl ?_) (obs_cons rfl rfl (hob rfl rfl ?_) (obs_cons rfl rfl (hob rfl rfl ?_) (obs_float rfl rfl (fob rfl ?_) (obs_float rfl rfl (fob rfl ?_) obs_nil)))))))) ?_
     · 
      exact fun _ e537=>deps_nil (lo aggInt (((((((((((((((((((((hb4.ext (e8.trans (e14.trans (e20.trans (e26.trans (e32.trans (e37.trans (e40.trans (e44.trans e49))))))))).updN u56 (by omega)).ext (e60.trans e65)).updN u72 (by omega)).ext e76).updN u83 (by omega)).ext e160).updN u214 (by omega)).ext e291).updN u345 (by omega)).ext (e348.trans e358)).updN u365 (by omega)).ext (e369.trans e374)).updN u381 (by omega)).ext e385).updN u392 (by omega)).ext e433).updN u459 (by omega)).ext e500).updN u526 (by omega)).ext e537) [.bool sa,.slice Aa na ca] rfl rfl rfl (pi_done rfl (Ext.refl _) rfl))
     · 
      exact fun _ e539=>deps_nil (lo aggInt (hb525.ext e539) [.bool s522,.slice A522 n522 c522] rfl rfl rfl (pi_done rfl (Ext.refl _) rfl))
     · 
      intro v540 e541
      have hw33:=hw32.trans e541
      refine dk rfl rfl (dk rfl rfl (deps_nil ?_))
      have L552:ln (x+(((((y-x).tdiv (Int.gcd m n:Int))*u350)%((Int.natAbs n:Int).tdiv (Int.gcd m n:Int)))*(Int.natAbs m:Int)))≤33554433:=Nat.le_trans (ln_add Lx L463) (by decide)
      refine cl (vs:= [.agg #[.bool sa,.slice Aa na ca],.agg #[.bool s522,.slice A522 n522 c522]]) hw33 (g_ref5_Add hw33.size (hx.ext hw33) (lx_ la rfl) ((z522.updT hb524 u526).ext e541).zi (z522.le (lx_ L463 rfl))) rfl (by kernel_rfl) fun xr555 v553 r555 e554 hw34=>?_
      obtain⟨s556,A556,n556,c556,rfl,z556⟩:=r555
      exact pi_done rfl e554 ⟨_,_,_,_,rfl,z556⟩
     · 
      exact fun _ e558=>deps_nil (lo aggInt (((hb458.ext e500).updN u526 (by omega)).ext e558) [.bool s455,.slice A455 n455 c455] rfl rfl rfl (pi_done rfl (Ext.refl _) rfl))
     · 
      intro v559 e560
      have hw33:=hw32.trans e560
      refine deps_cons rfl rfl fun x561 y562 h563 e564 f565=>?_
      obtain⟨s566,A566,n566,c566,rfl,z566⟩:=h563
      have z566:=z566.ext f565
      refine dk rfl rfl (deps_nil ?_)
      have L572:ln ((x+(((((y-x).tdiv (Int.gcd m n:Int))*u350)%((Int.natAbs n:Int).tdiv (Int.gcd m n:Int)))*(Int.natAbs m:Int)))%((Int.natAbs m:Int)*((Int.natAbs n:Int).tdiv (Int.gcd m n:Int))))≤33554432:=Nat.le_trans (ln_emod (crt6_mne hm0 HC.1)) L396
      refine cl (vs:= [.agg #[.bool s566,.slice A566 n566 c566],.agg #[.bool s455,.slice A455 n455 c455]]) hw33 (k_ref5_Mod hw33.size z566.zi (z566.le (lx_ L528 rfl)) ((((z455.updT hb457 u459).ext e500).updT hb524 u526).ext e560).zi (z455.le (lx_ L396 rfl)) (crt6_mne hm0 HC.1)) rfl (by kernel_rfl) fun xr575 v573 r575 e574 hw34=>?_
      obtain⟨_,_,rfl,⟨s577,A577,n577,c577,rfl,z577⟩,rfl⟩:=r575
      exact pi_done rfl e574 ⟨_,_,rfl,⟨_,_,_,_,rfl,z577⟩,rfl⟩
     · 
      intro v578 e579
      refine deps_cons rfl rfl fun x580 y581 h582 e583 f584=>?_
      obtain⟨_,_,rfl,⟨s586,A586,n586,c586,rfl,z586⟩,rfl⟩:=h582
      have z586:=z586.ext f584
      refine deps_nil (mv 1 rfl ?_)
      exact pi_done rfl (Ext.refl _) ⟨_,_,rfl,⟨_,_,_,_,rfl,z586⟩,rfl⟩
     · 
      intro v587 e588
      refine deps_cons rfl rfl fun x589 y590 h591 e592 f593=>?_
      obtain⟨_,_,rfl,⟨s595,A595,n595,c595,rfl,z595⟩,rfl⟩:=h591
      have z595:=z595.ext f593
      refine deps_nil ?_
      exact⟨.agg #[.bool s595,.slice A595 n595 c595],rfl,rfl,fun _=>by kernel_rfl,⟨_,_,_,_,rfl,z595⟩⟩
     · 
      intro v596 e597
      refine deps_cons rfl rfl fun x598 y599 h600 e601 f602=>?_
      obtain⟨_,_,rfl,⟨s604,A604,n604,c604,rfl,z604⟩,rfl⟩:=h600
      have z604:=z604.ext f602
      refine deps_nil ?_
      exact⟨.int .i64 0,rfl,rfl,fun _=>by kernel_rfl,rfl⟩
     · 
      intro v605 e606
      have hw33:=hw32.trans e606
      refine dk rfl rfl (dk rfl rfl (deps_cons rfl rfl fun x617 y618 h619 e620 f621=>?_))
      obtain⟨s622,A622,n622,c622,rfl,z622⟩:=h619
      have z622:=z622.ext f621
      refine dk rfl rfl (deps_cons rfl rfl fun x628 y629 h630 e631 f632=>?_)
      obtain⟨_,_,rfl,⟨s634,A634,n634,c634,rfl,z634⟩,rfl⟩:=h630
      have z634:=z634.ext f632
      refine deps_cons rfl rfl fun x635 y636 h637 e638 f639=>?_
      obtain⟨_,_,rfl,⟨s641,A641,n641,c641,rfl,z641⟩,rfl⟩:=h637
      have z641:=z641.ext f639
      refine deps_cons rfl rfl fun x642 y643 h644 e645 f646=>?_
      obtain⟨s647,A647,n647,c647,rfl,z647⟩:=h644
      have z647:=z647.ext f646
      refine dk rfl rfl (deps_nil ?_)
      have hb654:=(((((((((((((((((((((hb27.ext (e32.trans (e37.trans (e40.trans (e44.trans e49))))).updN u56 (by omega)).ext (e60.trans e65)).updN u72 (by omega)).ext e76).updN u83 (by omega)).ext e160).updN u214 (by omega)).ext e291).updN u345 (by omega)).ext (e348.trans e358)).updN u365 (by omega)).ext (e369.trans e374)).updN u381 (by omega)).ext e385).updN u392 (by omega)).ext e433).updN u459 (by omega)).ext e500).updN u526 (by omega)).ext e606)
      refine so aggInt hb654 [.bool s647,.slice A647 n647 c647] hw33 ge28 rfl rfl rfl rfl fun v653 hb655 u656 hw34=>(wl_nil (eo_np (eo_then (cw_seq (cw_keep [(8,.pointer (some ⟨g24,0,none⟩)),(9,.pointer (some ⟨g30,0,none⟩))] ⟨rfl,rfl,trivial⟩ ?_)))))
      obtain⟨v658,hv,e659⟩:∃v,v=v653.drew∧Ext v653 v:=⟨_,rfl,(Ext.refl _).drew⟩
      have hw35:=hw34.trans e659
      have hb661:=(hb655.ext e659)
      obtain⟨v660,hr665,hb662,u663,hs664⟩:=run_stored (P:=Tryz.prog) (us:= [.bool s647,.slice A647 n647 c647]) (off:=0) aggInt rfl hb661 (bq rfl) rfl [.bool s647,.slice A647 n647 c647] rfl
      have hw36:=u663.ext hw35 ge28
      have hb667:=((((((hb458.ext e500).updN u526 (by omega)).ext e606).updN u656 (by omega)).ext e659).updN u663 (by omega))
      obtain⟨v666,hr671,hb668,u669,hs670⟩:=run_stored (P:=Tryz.prog) (us:= [.bool s455,.slice A455 n455 c455]) (off:=0) aggInt rfl hb667 (bq rfl) rfl [.bool s455,.slice A455 n455 c455] rfl
      have hw37:=u669.ext hw36 ge34
      refine cw_det mix (w:=v658) [.agg #[.bool s647,.slice A647 n647 c647],.agg #[.bool s455,.slice A455 n455 c455],undef,undef,I0] [v658,v660,v666] [2,3] [[],[],[0],[1],[]] [[],[],[0],[0,1,2],[0,1,2,3]] [(0,0),(1,0),(1,1),(2,0),(3,1),(4,2)] rfl hv ?_ ?_
      · 
       refine dobs_val _ rfl rfl rfl rfl rfl (rd_load rfl (load_agg aggInt (hb655.ext e659) [.bool s647,.slice A647 n647 c647] rfl (bq rfl) rfl)) (dobs_val _ rfl rfl rfl rfl rfl (rd_load rfl (load_agg aggInt (((((hb458.ext e500).updN u526 (by omega)).ext e606).updN u656 (by omega)).ext e659) [.bool s455,.slice A455 n455 c455] rfl (bq rfl) rfl)) (dobs_val _ rfl rfl rfl rfl rfl (rd_load rfl (load_agg aggInt ((((((hb458.ext e500).updN u526 (by omega)).ext e606).updN u656 (by omega)).ext e659).updN u663 (by omega)) [.bool s455,.slice A455 n455 c455] rfl (bq rfl) rfl)) (dobs_sto _ rfl rfl rfl rfl rfl (rd_store rfl rfl hr665) (dobs_sto _ rfl rfl rfl rfl rfl (rd_store rfl rfl hr671) (dobs_val _ rfl rfl rfl rfl rfl (rd_assign rfl) ?_)))))
       exact dobs_nil
      clear hv
      refine eo_keep [(8,.pointer (some ⟨g24,0,none⟩)),(9,.pointer (some ⟨g30,0,none⟩)),(10,.int .i64 0)] ⟨rfl,rfl,rfl,trivial⟩ (eo_then (cw_ret (eo_ret [.agg #[.bool s647,.slice A647 n647 c647],.agg #[.bool s455,.slice A455 n455 c455],I0] rfl ⟨⟨_,rfl,load_agg aggInt (hb662.updN u669 (by omega)) [.bool s647,.slice A647 n647 c647] rfl (bq rfl) rfl⟩,⟨_,rfl,load_agg aggInt hb668 [.bool s455,.slice A455 n455 c455] rfl (bq rfl) rfl⟩,rfl,trivial⟩ ?_)))
      exact⟨_,rfl,⟨_,_,_,rfl,⟨_,_,_,_,rfl,(((((z647.updT hb654 u656).ext e659).updT hb661 u663).updT hb667 u669)).cast (crt6_eq hm0 hn0 p352 d1 d2)⟩,⟨_,_,_,_,rfl,(((((((((z455.updT hb457 u459).ext e500).updT hb524 u526).ext e606).updT hb654 u656).ext e659).updT hb661 u663).updT hb667 u669)).cast (crt6_lcm hm0 hn0)⟩,rfl⟩,hw37⟩
set_option maxHeartbeats 4000000 in
theorem g_ref6_CrtAll_fit {w:World}{b:Nat}(hb:b≤w.heap.size){A B:Option Addr}{n m cap cap2:Nat}(hne:n≠m):
    Calls Tryz.prog 43 #[.slice A n cap,.slice B m cap2] w (Gv w (T3 (ZR b 0) (ZR b 0) (Is (.int .i64 2)))):=by
 refine sx_enter Tryz.func43 rfl (n:=65) rfl (bq rfl) (args:= [.slice A n cap,.slice B m cap2]) (cw_keep [(0,.slice A n cap),(1,.slice B m cap2)] ⟨rfl,rfl,trivial⟩ (sr (al [F0,S0] (Ext.refl w) (fun _=>by kernel_rfl) rfl fun g1 v2 hb4 ge5 e3 hw1=>(alq [F0,S0] hw1 hb4.lt (fun _=>by kernel_rfl) rfl fun g6 v7 hb9 ge10 q11 e8 hw2=>(mv 1 rfl (ne_ (cw_seq (sr (mv 1 rfl (pu (v:= .int .i64 ((n:Nat):Int)) rfl (by kernel_rfl) (mv 1 rfl (pu (v:= .int .i64 ((m:Nat):Int)) rfl (by kernel_rfl) (wl_cmp rfl rfl rfl true (cb_ne_t (a:=n) (b:=m) rfl rfl (by omega)) (by decide) ?_)))))))))))))
 refine ne_ (cw_true rfl (sr (pu (v:= .agg #[F0,S0]) rfl (by kernel_rfl) (pu (v:= .agg #[F0,S0]) rfl (by kernel_rfl) ?_))))
 have hb13:=(hb4.ext e8)
 refine so aggInt hb13 [F0,S0] hw2 ge5 rfl rfl rfl rfl fun v12 hb14 u15 hw3=>?_
 have hb18:=(hb9.updN u15 (by omega))
 refine so aggInt hb18 [F0,S0] hw3 ge10 rfl rfl rfl rfl fun v17 hb19 u20 hw4=>(mv 1 rfl (ne_ (cw_ret (eo_thenR (eo_ret [.agg #[F0,S0],.agg #[F0,S0],.int .i64 2] rfl ⟨⟨_,rfl,load_agg aggInt (hb14.updN u20 (by omega)) [F0,S0] rfl (bq rfl) rfl⟩,⟨_,rfl,load_agg aggInt hb19 [F0,S0] rfl (bq rfl) rfl⟩,rfl,trivial⟩ ?_)))))
 exact⟨_,rfl,⟨_,_,_,rfl,⟨_,_,_,_,rfl,((((Zr.zero (w:=v7) (base:=w.heap.size)).updT hb13 u15).updT hb18 u20)).mono hb⟩,⟨_,_,_,_,rfl,((((Zr.zero (w:=v7) (base:=w.heap.size)).updT hb13 u15).updT hb18 u20)).mono hb⟩,rfl⟩,hw4⟩
set_option maxHeartbeats 4000000 in
theorem g_ref6_CrtAll_zero {w:World}{b:Nat}(hb:b≤w.heap.size){A B:Option Addr}{n cap cap2:Nat}{rs ms:List Int}{ks js:List Nat}(hr:Zl w A n cap rs ks) (hm:Zl w B n cap2 ms js) (hn:n≤2097152) (hkb:∀i,ks.getD i 0≤16777216) (hjb:∀i,js.getD i 0≤16777216) (hsum:(ms.map ln).sum≤1048576){i0:Nat}(hi0:i0<n∧ms.getD i0 0=0):
    Calls Tryz.prog 43 #[.slice A n cap,.slice B n cap2] w (Gv w (T3 (ZR b 0) (ZR b 0) (Is (.int .i64 4)))):=by
 refine sx_enter Tryz.func43 rfl (n:=65) rfl (bq rfl) (args:= [.slice A n cap,.slice B n cap2]) (cw_keep [(0,.slice A n cap),(1,.slice B n cap2)] ⟨rfl,rfl,trivial⟩ (sr (al [F0,S0] (Ext.refl w) (fun _=>by kernel_rfl) rfl fun g1 v2 hb4 ge5 e3 hw1=>(alq [F0,S0] hw1 hb4.lt (fun _=>by kernel_rfl) rfl fun g6 v7 hb9 ge10 q11 e8 hw2=>(mv 1 rfl (ne_ (cw_seq (sr (mv 1 rfl (pu (v:= .int .i64 ((n:Nat):Int)) rfl (by kernel_rfl) (mv 1 rfl (pu (v:= .int .i64 ((n:Nat):Int)) rfl (by kernel_rfl) (wl_cmp rfl rfl rfl false (cb_ne_f (a:=n) (b:=n) rfl rfl (by omega)) (by decide) ?_)))))))))))))
 refine ne_ (cw_false rfl (cw_skip (eo_then (cw_seq (sr (mv 1 rfl (ne_ (cw_block ?_))))))))
 refine cw_loop (T:=World×Nat)
  (fun⟨wr,k⟩=> [(0,.slice A n cap),(1,.slice B n cap2),(4,.pointer (some ⟨g1,0,none⟩)),(5,.pointer (some ⟨g6,0,none⟩)),(6,.int .i64 0),(7,.int .i64 ((k:Nat):Int))])
  (fun⟨wr,k⟩=>wr)
  (fun⟨wr,k⟩=>(Ext w wr)∧(k≤n)∧(∀i,i<k→ms.getD i 0≠0)∧(Bk wr g1 27 [F0,S0])∧(Bk wr g6 27 [F0,S0]))
  (fun⟨wr,k⟩=>n-k)
  (⟨v7,0⟩:World×Nat) ⟨hw2,Nat.zero_le _,(fun i hi=>by omega),(hb4.ext e8),hb9⟩ rfl ⟨rfl,rfl,rfl,rfl,rfl,rfl,trivial⟩ ?_
 rintro⟨wr,k⟩ ⟨hw1,hk,hz,b_4,b_5⟩
 refine cw_re [(0,.slice A n cap),(1,.slice B n cap2),(4,.pointer (some ⟨g1,0,none⟩)),(5,.pointer (some ⟨g6,0,none⟩)),(6,.int .i64 0),(7,.int .i64 ((k:Nat):Int))] wr rfl ⟨rfl,rfl,rfl,rfl,rfl,rfl,trivial⟩ (cw_seq (cw_seq ?_))
 by_cases hkn:k<n
 · 
  refine cw_region (mv 2 rfl (pu (v:= .int .i64 ((n:Nat):Int)) rfl (by kernel_rfl) (wl_cmp rfl rfl rfl true (cb_lt_t (a:=k) (b:=n) rfl rfl (by omega)) (by decide) (ne_ (cw_true rfl (cw_skip (eo_then (cw_seq (cw_block (cw_seq ?_))))))))))
  by_cases hz0:ms.getD k 0=0
  · 
   refine cw_region (mv 2 rfl ?_)
   obtain⟨pz12,sz12,Bz12,cz12,hpz12,ldz12,ez12⟩:=hm.at (i:=k) (by omega)
   refine wl_idx rfl rfl rfl elemI aggInt.size k rfl (by omega) pz12 hpz12 (by decide) (wl_load rfl rfl (ldz12 _ hw1 _ _ aggInt) (by decide) (cl (vs:= [.agg #[.bool sz12,.slice Bz12 (js.getD k 0) cz12]]) hw1 (g_ref5_Sign (ez12.ext hw1) (Nat.le_trans (hjb k) (by decide))) rfl (by kernel_rfl) fun xr15 v13 r15 e14 hw2=>?_))
   obtain rfl:=r15
   refine wl_cmp rfl rfl rfl true (scmp_eq_t hz0) (by decide) (ne_ (cw_true rfl (sr (pu (v:= .agg #[F0,S0]) rfl (by kernel_rfl) (pu (v:= .agg #[F0,S0]) rfl (by kernel_rfl) ?_)))))
   have hb17:=(b_4.ext e14)
   refine so aggInt hb17 [F0,S0] hw2 ge5 rfl rfl rfl rfl fun v16 hb18 u19 hw3=>?_
   have hb22:=((b_5.ext e14).updN u19 (by omega))
   refine so aggInt hb22 [F0,S0] hw3 ge10 rfl rfl rfl rfl fun v21 hb23 u24 hw4=>(mv 1 rfl (ne_ (cw_ret (eo_block_ret (eo_thenR (eo_loopR (eo_block_ret (eo_thenR (eo_ret [.agg #[F0,S0],.agg #[F0,S0],.int .i64 4] rfl ⟨⟨_,rfl,load_agg aggInt (hb18.updN u24 (by omega)) [F0,S0] rfl (bq rfl) rfl⟩,⟨_,rfl,load_agg aggInt hb23 [F0,S0] rfl (bq rfl) rfl⟩,rfl,trivial⟩ ?_)))))))))
   exact⟨_,rfl,⟨_,_,_,rfl,⟨_,_,_,_,rfl,((((Zr.zero (w:=v13) (base:=w.heap.size)).updT hb17 u19).updT hb22 u24)).mono hb⟩,⟨_,_,_,_,rfl,((((Zr.zero (w:=v13) (base:=w.heap.size)).updT hb17 u19).updT hb22 u24)).mono hb⟩,rfl⟩,hw4⟩
  · 
   refine cw_region (mv 2 rfl ?_)
   obtain⟨pz26,sz26,Bz26,cz26,hpz26,ldz26,ez26⟩:=hm.at (i:=k) (by omega)
   refine wl_idx rfl rfl rfl elemI aggInt.size k rfl (by omega) pz26 hpz26 (by decide) (wl_load rfl rfl (ldz26 _ hw1 _ _ aggInt) (by decide) (cl (vs:= [.agg #[.bool sz26,.slice Bz26 (js.getD k 0) cz26]]) hw1 (g_ref5_Sign (ez26.ext hw1) (Nat.le_trans (hjb k) (by decide))) rfl (by kernel_rfl) fun xr29 v27 r29 e28 hw2=>?_))
   obtain rfl:=r29
   refine wl_cmp rfl rfl rfl false (scmp_eq_f hz0) (by decide) (ne_ (cw_false rfl (cw_skip (eo_block_normal (eo_then (cw_region (mv 1 rfl (wl_ar rfl rfl rfl ((k+1:Nat):Int) (ai_add (a:=k) (b:=1) rfl rfl (by omega)) (by decide) (mv 1 rfl (wl_nil (eo_round (⟨v27,k+1⟩:World×Nat) ⟨hw2,(by omega),(fun i hi=>if h:i<k then hz i h else (show i=k by omega)▸hz0),(b_4.ext e28),(b_5.ext e28)⟩ (show n-(k+1)<n-k by omega) rfl ⟨rfl,rfl,rfl,rfl,rfl,rfl,trivial⟩)))))))))))
 · 
  exact absurd hi0.2 (hz i0 (by omega))
set_option maxHeartbeats 4000000 in
theorem g_ref6_CrtAll_none {w:World}{b:Nat}(hb:b≤w.heap.size){A B:Option Addr}{n cap cap2:Nat}{rs ms:List Int}{ks js:List Nat}(hr:Zl w A n cap rs ks) (hm:Zl w B n cap2 ms js) (hn:n≤2097152) (hkb:∀i,ks.getD i 0≤16777216) (hjb:∀i,js.getD i 0≤16777216) (hsum:(ms.map ln).sum≤1048576) (h0:∀i,i<ms.length→ms.getD i 0≠0) (hno:¬ ∃s,∀i,i<n→ms.getD i 0∣rs.getD i 0-s):
    Calls Tryz.prog 43 #[.slice A n cap,.slice B n cap2] w (Gv w (T3 (ZR b 0) (ZR b 0) (Is (.int .i64 6)))):=by
 refine sx_enter Tryz.func43 rfl (n:=65) rfl (bq rfl) (args:= [.slice A n cap,.slice B n cap2]) (cw_keep [(0,.slice A n cap),(1,.slice B n cap2)] ⟨rfl,rfl,trivial⟩ (sr (al [F0,S0] (Ext.refl w) (fun _=>by kernel_rfl) rfl fun g1 v2 hb4 ge5 e3 hw1=>(alq [F0,S0] hw1 hb4.lt (fun _=>by kernel_rfl) rfl fun g6 v7 hb9 ge10 q11 e8 hw2=>(mv 1 rfl (ne_ (cw_seq (sr (mv 1 rfl (pu (v:= .int .i64 ((n:Nat):Int)) rfl (by kernel_rfl) (mv 1 rfl (pu (v:= .int .i64 ((n:Nat):Int)) rfl (by kernel_rfl) (wl_cmp rfl rfl rfl false (cb_ne_f (a:=n) (b:=n) rfl rfl (by omega)) (by decide) ?_)))))))))))))
 refine ne_ (cw_false rfl (cw_skip (eo_then (cw_seq (sr (mv 1 rfl (ne_ (cw_block ?_))))))))
 refine cw_loop (T:=World×Nat)
  (fun⟨wr,k⟩=> [(0,.slice A n cap),(1,.slice B n cap2),(4,.pointer (some ⟨g1,0,none⟩)),(5,.pointer (some ⟨g6,0,none⟩)),(6,.int .i64 0),(7,.int .i64 ((k:Nat):Int))])
  (fun⟨wr,k⟩=>wr)
  (fun⟨wr,k⟩=>(Ext w wr)∧(k≤n)∧(∀i,i<k→ms.getD i 0≠0)∧(Bk wr g1 27 [F0,S0])∧(Bk wr g6 27 [F0,S0]))
  (fun⟨wr,k⟩=>n-k)
  (⟨v7,0⟩:World×Nat) ⟨hw2,Nat.zero_le _,(fun i hi=>by omega),(hb4.ext e8),hb9⟩ rfl ⟨rfl,rfl,rfl,rfl,rfl,rfl,trivial⟩ ?_
 rintro⟨wr,k⟩ ⟨hw1,hk,hz,b_4,b_5⟩
 refine cw_re [(0,.slice A n cap),(1,.slice B n cap2),(4,.pointer (some ⟨g1,0,none⟩)),(5,.pointer (some ⟨g6,0,none⟩)),(6,.int .i64 0),(7,.int .i64 ((k:Nat):Int))] wr rfl ⟨rfl,rfl,rfl,rfl,rfl,rfl,trivial⟩ (cw_seq (cw_seq ?_))
 by_cases hkn:k<n
 · 
  refine cw_region (mv 2 rfl (pu (v:= .int .i64 ((n:Nat):Int)) rfl (by kernel_rfl) (wl_cmp rfl rfl rfl true (cb_lt_t (a:=k) (b:=n) rfl rfl (by omega)) (by decide) (ne_ (cw_true rfl (cw_skip (eo_then (cw_seq (cw_block (cw_seq ?_))))))))))
  have hz0:ms.getD k 0≠0:=h0 k (by rw [hm.len];omega)
  refine cw_region (mv 2 rfl ?_)
  obtain⟨pz12,sz12,Bz12,cz12,hpz12,ldz12,ez12⟩:=hm.at (i:=k) (by omega)
  refine wl_idx rfl rfl rfl elemI aggInt.size k rfl (by omega) pz12 hpz12 (by decide) (wl_load rfl rfl (ldz12 _ hw1 _ _ aggInt) (by decide) (cl (vs:= [.agg #[.bool sz12,.slice Bz12 (js.getD k 0) cz12]]) hw1 (g_ref5_Sign (ez12.ext hw1) (Nat.le_trans (hjb k) (by decide))) rfl (by kernel_rfl) fun xr15 v13 r15 e14 hw2=>?_))
  obtain rfl:=r15
  refine wl_cmp rfl rfl rfl false (scmp_eq_f hz0) (by decide) (ne_ (cw_false rfl (cw_skip (eo_block_normal (eo_then (cw_region (mv 1 rfl (wl_ar rfl rfl rfl ((k+1:Nat):Int) (ai_add (a:=k) (b:=1) rfl rfl (by omega)) (by decide) (mv 1 rfl (wl_nil (eo_round (⟨v13,k+1⟩:World×Nat) ⟨hw2,(by omega),(fun i hi=>if h:i<k then hz i h else (show i=k by omega)▸hz0),(b_4.ext e14),(b_5.ext e14)⟩ (show n-(k+1)<n-k by omega) rfl ⟨rfl,rfl,rfl,rfl,rfl,rfl,trivial⟩)))))))))))
 · 
  refine cw_region (mv 2 rfl (pu (v:= .int .i64 ((n:Nat):Int)) rfl (by kernel_rfl) (wl_cmp rfl rfl rfl false (cb_lt_f (a:=k) (b:=n) rfl rfl (by omega)) (by decide) (ne_ (cw_false rfl (cw_exit (eo_thenX (eo_loopX (eo_block_here (eo_then (sr (pu (v:= .agg #[F0,S0]) rfl (by kernel_rfl) ?_))))))))))))
  have hb17:=b_4
  refine so aggInt hb17 [F0,S0] hw1 ge5 rfl rfl rfl rfl fun v16 hb18 u19 hw2=>(ne_ (sr (cl (vs:= []) hw2 (g_ref6_one (w:=v16) hw2.size) rfl (by kernel_rfl) fun xr23 v21 r23 e22 hw3=>?_)))
  obtain⟨s24,A24,n24,c24,rfl,z24⟩:=r23
  have hb26:=((b_5.updN u19 (by omega)).ext e22)
  refine so aggInt hb26 [.bool s24,.slice A24 n24 c24] hw3 ge10 rfl rfl rfl rfl fun v25 hb27 u28 hw4=>(ne_ (cw_seq (sr (mv 1 rfl (ne_ (cw_block ?_))))))
  refine cw_loop (T:=World×Nat×Int×ZC×ZC)
   (fun⟨wq,j,s,kr,km⟩=> [(0,.slice A n cap),(1,.slice B n cap2),(4,.pointer (some ⟨g1,0,none⟩)),(5,.pointer (some ⟨g6,0,none⟩)),(6,.int .i64 0),(8,.int .i64 ((j:Nat):Int))])
   (fun⟨wq,j,s,kr,km⟩=>wq)
   (fun⟨wq,j,s,kr,km⟩=>(Ext w wq)∧(j≤n)∧(∀i,i<j→ms.getD i 0∣rs.getD i 0-s)∧(Bk wq g1 27 [.bool kr.s,.slice kr.A kr.n kr.c])∧(Bk wq g6 27 [.bool km.s,.slice km.A km.n km.c])∧(Zr wq w.heap.size kr.s kr.A kr.n kr.c (s%lcmL (ms.take j)))∧(Zr wq w.heap.size km.s km.A km.n km.c (lcmL (ms.take j))))
   (fun⟨wq,j,s,kr,km⟩=>n-j)
   (⟨v25,0,0,⟨false,none,0,0⟩,⟨s24,A24,n24,c24⟩⟩:World×Nat×Int×ZC×ZC) ⟨hw4,Nat.zero_le _,(fun i hi=>by omega),((hb18.ext e22).updN u28 (by omega)),hb27,(Zr.zero.cast (by rw [List.take_zero];exact (Int.emod_one _).symm)),((z24.updT hb26 u28)).cast (by rfl)⟩ rfl ⟨rfl,rfl,rfl,rfl,rfl,rfl,trivial⟩ ?_
  rintro⟨wq,j,s,kr,km⟩ ⟨hw1,hj,hs,b_4,b_5,zr,zm⟩
  refine cw_re [(0,.slice A n cap),(1,.slice B n cap2),(4,.pointer (some ⟨g1,0,none⟩)),(5,.pointer (some ⟨g6,0,none⟩)),(6,.int .i64 0),(8,.int .i64 ((j:Nat):Int))] wq rfl ⟨rfl,rfl,rfl,rfl,rfl,rfl,trivial⟩ (cw_seq (cw_seq ?_))
  by_cases hjn0:j<n
  · 
   refine cw_region (mv 2 rfl (pu (v:= .int .i64 ((n:Nat):Int)) rfl (by kernel_rfl) (wl_cmp rfl rfl rfl true (cb_lt_t (a:=j) (b:=n) rfl rfl (by omega)) (by decide) (ne_ (cw_true rfl (cw_skip (eo_then (cw_seq (cw_block (cw_seq ?_))))))))))
   have hL0:lcmL (ms.take j)≠0:=lcmL_ne h0 j
   by_cases hd:(Int.gcd (lcmL (ms.take j)) (ms.getD j 0):Int)∣rs.getD j 0-s%lcmL (ms.take j)
   · 
    obtain⟨s',d1,d2,hs2⟩:=crt_next (by rw [hm.len];omega) hs h0 hd
    obtain⟨pz30,sz30,Bz30,cz30,hpz30,ldz30,ez30⟩:=hr.at (i:=j) (by omega)
    obtain⟨pz31,sz31,Bz31,cz31,hpz31,ldz31,ez31⟩:=hm.at (i:=j) (by omega)
    have L32:ln ((Int.lcm (lcmL (ms.take j)) (ms.getD j 0):Int))≤1048577:=(by rw [lcmL_succ (by rw [hm.len];omega)];exact ln_lcmL_le hsum (j+1))
    have L33:ln (s'%(Int.lcm (lcmL (ms.take j)) (ms.getD j 0):Int))≤1048577:=Nat.le_trans (ln_emod (lcm_ne hL0 (h0 j (by rw [hm.len];omega)))) L32
    refine cw_drawA mix 17 [12,13,14] [15,16] [Is (.agg #[.bool kr.s,.slice kr.A kr.n kr.c]),Is (.agg #[.bool km.s,.slice km.A km.n km.c]),Is (.slice A n cap),Is (.int .i64 ((j:Nat):Int)),Is (.pointer (some pz30)),Is (.agg #[.bool sz30,.slice Bz30 (ks.getD j 0) cz30]),Is (.slice B n cap2),Is (.int .i64 ((j:Nat):Int)),Is (.pointer (some pz31)),Is (.agg #[.bool sz31,.slice Bz31 (js.getD j 0) cz31]),T3 (ZR w.heap.size (s'%(Int.lcm (lcmL (ms.take j)) (ms.getD j 0):Int))) (ZR w.heap.size ((Int.lcm (lcmL (ms.take j)) (ms.getD j 0):Int))) (Is (.int .i64 0)),T3 (ZR w.heap.size (s'%(Int.lcm (lcmL (ms.take j)) (ms.getD j 0):Int))) (ZR w.heap.size ((Int.lcm (lcmL (ms.take j)) (ms.getD j 0):Int))) (Is (.int .i64 0)),ZR w.heap.size (s'%(Int.lcm (lcmL (ms.take j)) (ms.getD j 0):Int)),ZR w.heap.size ((Int.lcm (lcmL (ms.take j)) (ms.getD j 0):Int)),Is (.int .i64 0),PR wq.heap.size 27 [F0,S0],PR wq.heap.size 27 [F0,S0]] [[],[],[],[],[2,3],[4],[],[],[6,7],[8],[0,1,5,9],[10],[11],[11],[11],[],[]] [[],[],[],[],[2,3],[2,3,4],[],[],[6,7],[6,7,8],[0,1,2,3,4,5,6,7,8,9],[0,1,2,3,4,5,6,7,8,9,10],[0,1,2,3,4,5,6,7,8,9,10,11],[0,1,2,3,4,5,6,7,8,9,10,11],[0,1,2,3,4,5,6,7,8,9,10,11],[],[],[0,1,2,3,4,5,6,7,8,9,10,11,12,15,16],[0,1,2,3,4,5,6,7,8,9,10,11,12,13,15,16,17],[0,1,2,3,4,5,6,7,8,9,10,11,12,13,14,15,16,17,18]] rfl rfl ⟨fun _ _ h=>PR.old h,fun _ _ h=>PR.old h,trivial⟩
     (obs_cons rfl rfl (hob rfl rfl ?_) (obs_cons rfl rfl (hob rfl rfl ?_) (obs_cons rfl rfl (hob rfl rfl ?_) (obs_cons rfl rfl (hob rfl rfl ?_) (obs_cons rfl rfl (hob rfl rfl ?_) (obs_cons rfl rfl (hob rfl rfl ?_) (obs_cons rfl rfl (hob rfl rfl ?_) (obs_cons rfl rfl (hob rfl rfl ?_) (obs_cons rfl rfl (hob rfl rfl ?_) (obs_cons rfl rfl (hob rfl rfl ?_) (obs_cons rfl rfl (hob rfl rfl ?_) (obs_cons rfl rfl (hob rfl rfl ?_) (obs_float rfl rfl (fob rfl ?_) (obs_float rfl rfl (fob rfl ?_) (obs_float rfl rfl (fob rfl ?_) (obs_cons rfl rfl (hobA rfl ?_) (obs_cons rfl rfl (hobA rfl ?_) obs_nil))))))))))))))))) ?_
    · 
     exact fun _ e43=>deps_nil (lo aggInt (b_4.ext e43) [.bool kr.s,.slice kr.A kr.n kr.c] rfl rfl rfl (pi_done rfl (Ext.refl _) rfl))
    · 
     exact fun _ e45=>deps_nil (lo aggInt (b_5.ext e45) [.bool km.s,.slice km.A km.n km.c] rfl rfl rfl (pi_done rfl (Ext.refl _) rfl))
    · 
     exact fun _ _=>deps_nil (mv 1 rfl (pi_done rfl (Ext.refl _) rfl))
    · 
     exact fun _ _=>deps_nil (mv 1 rfl (pi_done rfl (Ext.refl _) rfl))
    · 
     exact fun _ _=>dk rfl rfl (dk rfl rfl (deps_nil (wl_idx rfl rfl rfl elemI aggInt.size j rfl (by omega) pz30 hpz30 (by decide) (pi_done rfl (Ext.refl _) rfl))))
    · 
     intro v62 e63
     have hw2:=hw1.trans e63
     refine dk rfl rfl (deps_nil (wl_load rfl rfl (ldz30 _ hw2 _ _ aggInt) (by decide) ?_))
     exact pi_done rfl (Ext.refl _) rfl
    · 
     exact fun _ _=>deps_nil (mv 1 rfl (pi_done rfl (Ext.refl _) rfl))
    · 
     exact fun _ _=>deps_nil (mv 1 rfl (pi_done rfl (Ext.refl _) rfl))
    · 
     exact fun _ _=>dk rfl rfl (dk rfl rfl (deps_nil (wl_idx rfl rfl rfl elemI aggInt.size j rfl (by omega) pz31 hpz31 (by decide) (pi_done rfl (Ext.refl _) rfl))))
    · 
     intro v85 e86
     have hw2:=hw1.trans e86
     refine dk rfl rfl (deps_nil (wl_load rfl rfl (ldz31 _ hw2 _ _ aggInt) (by decide) ?_))
     exact pi_done rfl (Ext.refl _) rfl
    · 
     intro v92 e93
     have hw2:=hw1.trans e93
     refine dk rfl rfl (dk rfl rfl (dk rfl rfl (dk rfl rfl (deps_nil ?_))))
     have L114:ln ((Int.lcm (lcmL (ms.take j)) (ms.getD j 0):Int))≤1048577:=(by rw [lcmL_succ (by rw [hm.len];omega)];exact ln_lcmL_le hsum (j+1))
     have L115:ln (s'%(Int.lcm (lcmL (ms.take j)) (ms.getD j 0):Int))≤1048577:=Nat.le_trans (ln_emod (lcm_ne hL0 (h0 j (by rw [hm.len];omega)))) L114
     refine cl (vs:= [.agg #[.bool kr.s,.slice kr.A kr.n kr.c],.agg #[.bool km.s,.slice km.A km.n km.c],.agg #[.bool sz30,.slice Bz30 (ks.getD j 0) cz30],.agg #[.bool sz31,.slice Bz31 (js.getD j 0) cz31]]) hw2 (g_ref6_Crt_ok hw2.size (zr.ext e93).zi (zr.le (Nat.le_trans (Nat.le_trans (ln_emod (lcmL_ne h0 j)) (ln_lcmL_le hsum j)) (by decide))) (zm.ext e93).zi (zm.le (Nat.le_trans (ln_lcmL_le hsum j) (by decide))) (ez30.ext hw2) (Nat.le_trans (hkb j) (by decide)) (ez31.ext hw2) (Nat.le_trans (hjb j) (by decide)) hL0 (h0 j (by rw [hm.len];omega)) d1 d2) rfl (by kernel_rfl) fun xr118 v116 r118 e117 hw3=>?_
     obtain⟨_,_,_,rfl,⟨s120,A120,n120,c120,rfl,z120⟩,⟨s121,A121,n121,c121,rfl,z121⟩,rfl⟩:=r118
     exact pi_done rfl e117 ⟨_,_,_,rfl,⟨_,_,_,_,rfl,z120⟩,⟨_,_,_,_,rfl,z121⟩,rfl⟩
    · 
     intro v122 e123
     refine deps_cons rfl rfl fun x124 y125 h126 e127 f128=>?_
     obtain⟨_,_,_,rfl,⟨s130,A130,n130,c130,rfl,z130⟩,⟨s131,A131,n131,c131,rfl,z131⟩,rfl⟩:=h126
     have z130:=z130.ext f128
     have z131:=z131.ext f128
     refine deps_nil (mv 1 rfl ?_)
     exact pi_done rfl (Ext.refl _) ⟨_,_,_,rfl,⟨_,_,_,_,rfl,z130⟩,⟨_,_,_,_,rfl,z131⟩,rfl⟩
    · 
     intro v132 e133
     refine deps_cons rfl rfl fun x134 y135 h136 e137 f138=>?_
     obtain⟨_,_,_,rfl,⟨s140,A140,n140,c140,rfl,z140⟩,⟨s141,A141,n141,c141,rfl,z141⟩,rfl⟩:=h136
     have z140:=z140.ext f138
     have z141:=z141.ext f138
     refine deps_nil ?_
     exact⟨.agg #[.bool s140,.slice A140 n140 c140],rfl,rfl,fun _=>by kernel_rfl,⟨_,_,_,_,rfl,z140⟩⟩
    · 
     intro v142 e143
     refine deps_cons rfl rfl fun x144 y145 h146 e147 f148=>?_
     obtain⟨_,_,_,rfl,⟨s150,A150,n150,c150,rfl,z150⟩,⟨s151,A151,n151,c151,rfl,z151⟩,rfl⟩:=h146
     have z150:=z150.ext f148
     have z151:=z151.ext f148
     refine deps_nil ?_
     exact⟨.agg #[.bool s151,.slice A151 n151 c151],rfl,rfl,fun _=>by kernel_rfl,⟨_,_,_,_,rfl,z151⟩⟩
    · 
     intro v152 e153
     refine deps_cons rfl rfl fun x154 y155 h156 e157 f158=>?_
     obtain⟨_,_,_,rfl,⟨s160,A160,n160,c160,rfl,z160⟩,⟨s161,A161,n161,c161,rfl,z161⟩,rfl⟩:=h156
     have z160:=z160.ext f158
     have z161:=z161.ext f158
     refine deps_nil ?_
     exact⟨.int .i64 0,rfl,rfl,fun _=>by kernel_rfl,rfl⟩
    · 
     intro v162 e163
     refine deps_nil (wl_alloc rfl (z:= .agg #[F0,S0]) (vs:= [F0,S0]) (fun _=>by kernel_rfl) rfl (by decide) fun g164 v165 nb=>?_)
     exact pi_done rfl nb.ext ⟨⟨_,rfl,by rw [←nb.at_];exact e163.size,nb.bk⟩,_,rfl,Nat.le_of_eq nb.at_⟩
    · 
     intro v166 e167
     refine deps_nil (wl_alloc rfl (z:= .agg #[F0,S0]) (vs:= [F0,S0]) (fun _=>by kernel_rfl) rfl (by decide) fun g168 v169 nb=>?_)
     exact pi_done rfl nb.ext ⟨⟨_,rfl,by rw [←nb.at_];exact e167.size,nb.bk⟩,_,rfl,Nat.le_of_eq nb.at_⟩
    · 
     intro v170 e171
     have hw2:=hw1.trans e171
     refine dk rfl rfl (dk rfl rfl (dk rfl rfl (dk rfl rfl (dk rfl rfl (dk rfl rfl (dk rfl rfl (dk rfl rfl (dk rfl rfl (dk rfl rfl (deps_cons rfl rfl fun x222 y223 h224 e225 f226=>?_))))))))))
     obtain⟨_,_,_,rfl,⟨s228,A228,n228,c228,rfl,z228⟩,⟨s229,A229,n229,c229,rfl,z229⟩,rfl⟩:=h224
     have z228:=z228.ext f226
     have z229:=z229.ext f226
     refine deps_cons rfl rfl fun x230 y231 h232 e233 f234=>?_
     obtain⟨_,_,_,rfl,⟨s236,A236,n236,c236,rfl,z236⟩,⟨s237,A237,n237,c237,rfl,z237⟩,rfl⟩:=h232
     have z236:=z236.ext f234
     have z237:=z237.ext f234
     refine deps_cons rfl rfl fun x238 y239 h240 e241 f242=>?_
     obtain⟨s243,A243,n243,c243,rfl,z243⟩:=h240
     have z243:=z243.ext f242
     refine deps_cons rfl rfl fun x244 y245 h246 e247 f248=>?_
     obtain⟨s249,A249,n249,c249,rfl,z249⟩:=h246
     have z249:=z249.ext f248
     refine dk rfl rfl (deps_cons rfl rfl fun x255 y256 h257 e258 f259=>?_)
     obtain⟨g260,rfl,ge262,hb261⟩:=h257
     have hb261:=hb261.ext f259
     have q263:g6<g260:=Nat.lt_of_lt_of_le b_5.lt ge262
     have ge262:w.heap.size≤g260:=Nat.le_trans hw1.size ge262
     refine deps_cons rfl rfl fun x264 y265 h266 e267 f268=>?_
     obtain⟨g269,rfl,ge271,hb270⟩:=h266
     have hb270:=hb270.ext f268
     have q272:g6<g269:=Nat.lt_of_lt_of_le b_5.lt ge271
     have ge271:w.heap.size≤g269:=Nat.le_trans hw1.size ge271
     refine deps_nil ?_
     intro hdist
     have q273:g269≠g260:=fun e=>hdist 16 (by decide) 15 (by decide) (by decide) _ _ rfl rfl _ rfl (by rw [e];rfl)
     clear hdist
     refine so aggInt hb261 [.bool s243,.slice A243 n243 c243] hw2 ge262 rfl rfl rfl rfl fun v274 hb276 u277 hw3=>?_
     have hb280:=(hb270.updN u277 (by omega))
     refine so aggInt hb280 [.bool s249,.slice A249 n249 c249] hw3 ge271 rfl rfl rfl rfl fun v279 hb281 u282 hw4=>(mv 1 rfl (wl_nil (eo_np (eo_then (cw_seq (sr (mv 1 rfl (wl_cmp rfl rfl rfl false (by decide) (by decide) (ne_ (cw_false rfl (cw_skip (eo_then (cw_seq ?_)))))))))))))
     refine cw_region (lo aggInt (hb276.updN u282 (by omega)) [.bool s243,.slice A243 n243 c243] rfl rfl rfl ?_)
     have hb285:=(((b_4.ext e171).updN u277 (by omega)).updN u282 (by omega))
     refine so aggInt hb285 [.bool s243,.slice A243 n243 c243] hw4 ge5 rfl rfl rfl rfl fun v284 hb286 u287 hw5=>(ne_ (cw_region (lo aggInt (hb281.updN u287 (by omega)) [.bool s249,.slice A249 n249 c249] rfl rfl rfl ?_)))
     have hb290:=((((b_5.ext e171).updN u277 (by omega)).updN u282 (by omega)).updN u287 (by omega))
     refine so aggInt hb290 [.bool s249,.slice A249 n249 c249] hw5 ge10 rfl rfl rfl rfl fun v289 hb291 u292 hw6=>(wl_nil (eo_block_normal (eo_then (cw_region (mv 1 rfl (wl_ar rfl rfl rfl ((j+1:Nat):Int) (ai_add (a:=j) (b:=1) rfl rfl (by omega)) (by decide) (mv 1 rfl (wl_nil (eo_round (⟨v289,j+1,s',⟨s243,A243,n243,c243⟩,⟨s249,A249,n249,c249⟩⟩:World×Nat×Int×ZC×ZC) ⟨hw6,(by omega),hs2,(hb286.updN u292 (by omega)),hb291,(((((z243.updT hb261 u277).updT hb280 u282).updT hb285 u287).updT hb290 u292)).cast (by rw [lcmL_succ (by rw [hm.len];omega)]),(((((z249.updT hb261 u277).updT hb280 u282).updT hb285 u287).updT hb290 u292)).cast (lcmL_succ (by rw [hm.len];omega))⟩ (show n-(j+1)<n-j by omega) rfl ⟨rfl,rfl,rfl,rfl,rfl,rfl,trivial⟩)))))))))
   · 
    obtain⟨pz294,sz294,Bz294,cz294,hpz294,ldz294,ez294⟩:=hr.at (i:=j) (by omega)
    obtain⟨pz295,sz295,Bz295,cz295,hpz295,ldz295,ez295⟩:=hm.at (i:=j) (by omega)
    refine cw_drawA mix 17 [12,13,14] [15,16] [Is (.agg #[.bool kr.s,.slice kr.A kr.n kr.c]),Is (.agg #[.bool km.s,.slice km.A km.n km.c]),Is (.slice A n cap),Is (.int .i64 ((j:Nat):Int)),Is (.pointer (some pz294)),Is (.agg #[.bool sz294,.slice Bz294 (ks.getD j 0) cz294]),Is (.slice B n cap2),Is (.int .i64 ((j:Nat):Int)),Is (.pointer (some pz295)),Is (.agg #[.bool sz295,.slice Bz295 (js.getD j 0) cz295]),T3 (ZR w.heap.size (0)) (ZR w.heap.size (0)) (Is (.int .i64 6)),T3 (ZR w.heap.size (0)) (ZR w.heap.size (0)) (Is (.int .i64 6)),ZR w.heap.size (0),ZR w.heap.size (0),Is (.int .i64 6),PR wq.heap.size 27 [F0,S0],PR wq.heap.size 27 [F0,S0]] [[],[],[],[],[2,3],[4],[],[],[6,7],[8],[0,1,5,9],[10],[11],[11],[11],[],[]] [[],[],[],[],[2,3],[2,3,4],[],[],[6,7],[6,7,8],[0,1,2,3,4,5,6,7,8,9],[0,1,2,3,4,5,6,7,8,9,10],[0,1,2,3,4,5,6,7,8,9,10,11],[0,1,2,3,4,5,6,7,8,9,10,11],[0,1,2,3,4,5,6,7,8,9,10,11],[],[],[0,1,2,3,4,5,6,7,8,9,10,11,12,15,16],[0,1,2,3,4,5,6,7,8,9,10,11,12,13,15,16,17],[0,1,2,3,4,5,6,7,8,9,10,11,12,13,14,15,16,17,18]] rfl rfl ⟨fun _ _ h=>PR.old h,fun _ _ h=>PR.old h,trivial⟩
     (obs_cons rfl rfl (hob rfl rfl ?_) (obs_cons rfl rfl (hob rfl rfl ?_) (obs_cons rfl rfl (hob rfl rfl ?_) (obs_cons rfl rfl (hob rfl rfl ?_) (obs_cons rfl rfl (hob rfl rfl ?_) (obs_cons rfl rfl (hob rfl rfl ?_) (obs_cons rfl rfl (hob rfl rfl ?_) (obs_cons rfl rfl (hob rfl rfl ?_) (obs_cons rfl rfl (hob rfl rfl ?_) (obs_cons rfl rfl (hob rfl rfl ?_) (obs_cons rfl rfl (hob rfl rfl ?_) (obs_cons rfl rfl (hob rfl rfl ?_) (obs_float rfl rfl (fob rfl ?_) (obs_float rfl rfl (fob rfl ?_) (obs_float rfl rfl (fob rfl ?_) (obs_cons rfl rfl (hobA rfl ?_) (obs_cons rfl rfl (hobA rfl ?_) obs_nil))))))))))))))))) ?_
    · 
     exact fun _ e305=>deps_nil (lo aggInt (b_4.ext e305) [.bool kr.s,.slice kr.A kr.n kr.c] rfl rfl rfl (pi_done rfl (Ext.refl _) rfl))
    · 
     exact fun _ e307=>deps_nil (lo aggInt (b_5.ext e307) [.bool km.s,.slice km.A km.n km.c] rfl rfl rfl (pi_done rfl (Ext.refl _) rfl))
    · 
     exact fun _ _=>deps_nil (mv 1 rfl (pi_done rfl (Ext.refl _) rfl))
    · 
     exact fun _ _=>deps_nil (mv 1 rfl (pi_done rfl (Ext.refl _) rfl))
    · 
     exact fun _ _=>dk rfl rfl (dk rfl rfl (deps_nil (wl_idx rfl rfl rfl elemI aggInt.size j rfl (by omega) pz294 hpz294 (by decide) (pi_done rfl (Ext.refl _) rfl))))
    · 
     intro v324 e325
     have hw2:=hw1.trans e325
     refine dk rfl rfl (deps_nil (wl_load rfl rfl (ldz294 _ hw2 _ _ aggInt) (by decide) ?_))
     exact pi_done rfl (Ext.refl _) rfl
    · 
     exact fun _ _=>deps_nil (mv 1 rfl (pi_done rfl (Ext.refl _) rfl))
    · 
     exact fun _ _=>deps_nil (mv 1 rfl (pi_done rfl (Ext.refl _) rfl))
    · 
     exact fun _ _=>dk rfl rfl (dk rfl rfl (deps_nil (wl_idx rfl rfl rfl elemI aggInt.size j rfl (by omega) pz295 hpz295 (by decide) (pi_done rfl (Ext.refl _) rfl))))
    · 
     intro v347 e348
     have hw2:=hw1.trans e348
     refine dk rfl rfl (deps_nil (wl_load rfl rfl (ldz295 _ hw2 _ _ aggInt) (by decide) ?_))
     exact pi_done rfl (Ext.refl _) rfl
    · 
     intro v354 e355
     have hw2:=hw1.trans e355
     refine dk rfl rfl (dk rfl rfl (dk rfl rfl (dk rfl rfl (deps_nil (cl (vs:= [.agg #[.bool kr.s,.slice kr.A kr.n kr.c],.agg #[.bool km.s,.slice km.A km.n km.c],.agg #[.bool sz294,.slice Bz294 (ks.getD j 0) cz294],.agg #[.bool sz295,.slice Bz295 (js.getD j 0) cz295]]) hw2 (g_ref6_Crt_none hw2.size (zr.ext e355).zi (zr.le (Nat.le_trans (Nat.le_trans (ln_emod (lcmL_ne h0 j)) (ln_lcmL_le hsum j)) (by decide))) (zm.ext e355).zi (zm.le (Nat.le_trans (ln_lcmL_le hsum j) (by decide))) (ez294.ext hw2) (Nat.le_trans (hkb j) (by decide)) (ez295.ext hw2) (Nat.le_trans (hjb j) (by decide)) hL0 (h0 j (by rw [hm.len];omega)) hd) rfl (by kernel_rfl) fun xr378 v376 r378 e377 hw3=>?_)))))
     obtain⟨_,_,_,rfl,⟨s380,A380,n380,c380,rfl,z380⟩,⟨s381,A381,n381,c381,rfl,z381⟩,rfl⟩:=r378
     exact pi_done rfl e377 ⟨_,_,_,rfl,⟨_,_,_,_,rfl,z380⟩,⟨_,_,_,_,rfl,z381⟩,rfl⟩
    · 
     intro v382 e383
     refine deps_cons rfl rfl fun x384 y385 h386 e387 f388=>?_
     obtain⟨_,_,_,rfl,⟨s390,A390,n390,c390,rfl,z390⟩,⟨s391,A391,n391,c391,rfl,z391⟩,rfl⟩:=h386
     have z390:=z390.ext f388
     have z391:=z391.ext f388
     refine deps_nil (mv 1 rfl ?_)
     exact pi_done rfl (Ext.refl _) ⟨_,_,_,rfl,⟨_,_,_,_,rfl,z390⟩,⟨_,_,_,_,rfl,z391⟩,rfl⟩
    · 
     intro v392 e393
     refine deps_cons rfl rfl fun x394 y395 h396 e397 f398=>?_
     obtain⟨_,_,_,rfl,⟨s400,A400,n400,c400,rfl,z400⟩,⟨s401,A401,n401,c401,rfl,z401⟩,rfl⟩:=h396
     have z400:=z400.ext f398
     have z401:=z401.ext f398
     refine deps_nil ?_
     exact⟨.agg #[.bool s400,.slice A400 n400 c400],rfl,rfl,fun _=>by kernel_rfl,⟨_,_,_,_,rfl,z400⟩⟩
    · 
     intro v402 e403
     refine deps_cons rfl rfl fun x404 y405 h406 e407 f408=>?_
     obtain⟨_,_,_,rfl,⟨s410,A410,n410,c410,rfl,z410⟩,⟨s411,A411,n411,c411,rfl,z411⟩,rfl⟩:=h406
     have z410:=z410.ext f408
     have z411:=z411.ext f408
     refine deps_nil ?_
     exact⟨.agg #[.bool s411,.slice A411 n411 c411],rfl,rfl,fun _=>by kernel_rfl,⟨_,_,_,_,rfl,z411⟩⟩
    · 
     intro v412 e413
     refine deps_cons rfl rfl fun x414 y415 h416 e417 f418=>?_
     obtain⟨_,_,_,rfl,⟨s420,A420,n420,c420,rfl,z420⟩,⟨s421,A421,n421,c421,rfl,z421⟩,rfl⟩:=h416
     have z420:=z420.ext f418
     have z421:=z421.ext f418
     refine deps_nil ?_
     exact⟨.int .i64 6,rfl,rfl,fun _=>by kernel_rfl,rfl⟩
    · 
     intro v422 e423
     refine deps_nil (wl_alloc rfl (z:= .agg #[F0,S0]) (vs:= [F0,S0]) (fun _=>by kernel_rfl) rfl (by decide) fun g424 v425 nb=>?_)
     exact pi_done rfl nb.ext ⟨⟨_,rfl,by rw [←nb.at_];exact e423.size,nb.bk⟩,_,rfl,Nat.le_of_eq nb.at_⟩
    · 
     intro v426 e427
     refine deps_nil (wl_alloc rfl (z:= .agg #[F0,S0]) (vs:= [F0,S0]) (fun _=>by kernel_rfl) rfl (by decide) fun g428 v429 nb=>?_)
     exact pi_done rfl nb.ext ⟨⟨_,rfl,by rw [←nb.at_];exact e427.size,nb.bk⟩,_,rfl,Nat.le_of_eq nb.at_⟩
    · 
     intro v430 e431
     have hw2:=hw1.trans e431
     refine dk rfl rfl (dk rfl rfl (dk rfl rfl (dk rfl rfl (dk rfl rfl (dk rfl rfl (dk rfl rfl (dk rfl rfl (dk rfl rfl (dk rfl rfl (deps_cons rfl rfl fun x482 y483 h484 e485 f486=>?_))))))))))
     obtain⟨_,_,_,rfl,⟨s488,A488,n488,c488,rfl,z488⟩,⟨s489,A489,n489,c489,rfl,z489⟩,rfl⟩:=h484
     have z488:=z488.ext f486
     have z489:=z489.ext f486
     refine deps_cons rfl rfl fun x490 y491 h492 e493 f494=>?_
     obtain⟨_,_,_,rfl,⟨s496,A496,n496,c496,rfl,z496⟩,⟨s497,A497,n497,c497,rfl,z497⟩,rfl⟩:=h492
     have z496:=z496.ext f494
     have z497:=z497.ext f494
     refine deps_cons rfl rfl fun x498 y499 h500 e501 f502=>?_
     obtain⟨s503,A503,n503,c503,rfl,z503⟩:=h500
     have z503:=z503.ext f502
     refine deps_cons rfl rfl fun x504 y505 h506 e507 f508=>?_
     obtain⟨s509,A509,n509,c509,rfl,z509⟩:=h506
     have z509:=z509.ext f508
     refine dk rfl rfl (deps_cons rfl rfl fun x515 y516 h517 e518 f519=>?_)
     obtain⟨g520,rfl,ge522,hb521⟩:=h517
     have hb521:=hb521.ext f519
     have q523:g6<g520:=Nat.lt_of_lt_of_le b_5.lt ge522
     have ge522:w.heap.size≤g520:=Nat.le_trans hw1.size ge522
     refine deps_cons rfl rfl fun x524 y525 h526 e527 f528=>?_
     obtain⟨g529,rfl,ge531,hb530⟩:=h526
     have hb530:=hb530.ext f528
     have q532:g6<g529:=Nat.lt_of_lt_of_le b_5.lt ge531
     have ge531:w.heap.size≤g529:=Nat.le_trans hw1.size ge531
     refine deps_nil ?_
     intro hdist
     have q533:g529≠g520:=fun e=>hdist 16 (by decide) 15 (by decide) (by decide) _ _ rfl rfl _ rfl (by rw [e];rfl)
     clear hdist
     refine so aggInt hb521 [.bool s503,.slice A503 n503 c503] hw2 ge522 rfl rfl rfl rfl fun v534 hb536 u537 hw3=>?_
     have hb540:=(hb530.updN u537 (by omega))
     refine so aggInt hb540 [.bool s509,.slice A509 n509 c509] hw3 ge531 rfl rfl rfl rfl fun v539 hb541 u542 hw4=>(mv 1 rfl (wl_nil (eo_np (eo_then (cw_seq (sr (mv 1 rfl (wl_cmp rfl rfl rfl true (by decide) (by decide) (ne_ (cw_true rfl (sr (pu (v:= .agg #[F0,S0]) rfl (by kernel_rfl) (pu (v:= .agg #[F0,S0]) rfl (by kernel_rfl) ?_)))))))))))))
     refine mv 1 rfl ?_
     have hb545:=(((b_4.ext e431).updN u537 (by omega)).updN u542 (by omega))
     refine so aggInt hb545 [F0,S0] hw4 ge5 rfl rfl rfl rfl fun v544 hb546 u547 hw5=>?_
     have hb550:=((((b_5.ext e431).updN u537 (by omega)).updN u542 (by omega)).updN u547 (by omega))
     refine so aggInt hb550 [F0,S0] hw5 ge10 rfl rfl rfl rfl fun v549 hb551 u552 hw6=>(mv 1 rfl (ne_ (cw_ret (eo_thenR (eo_block_ret (eo_thenR (eo_loopR (eo_block_ret (eo_thenR (eo_ret [.agg #[F0,S0],.agg #[F0,S0],.int .i64 6] rfl ⟨⟨_,rfl,load_agg aggInt (hb546.updN u552 (by omega)) [F0,S0] rfl (bq rfl) rfl⟩,⟨_,rfl,load_agg aggInt hb551 [F0,S0] rfl (bq rfl) rfl⟩,rfl,trivial⟩ ?_))))))))))
     exact⟨_,rfl,⟨_,_,_,rfl,⟨_,_,_,_,rfl,((((Zr.zero (w:=v539) (base:=w.heap.size)).updT hb545 u547).updT hb550 u552)).mono hb⟩,⟨_,_,_,_,rfl,((((Zr.zero (w:=v539) (base:=w.heap.size)).updT hb545 u547).updT hb550 u552)).mono hb⟩,rfl⟩,hw6⟩
  · 
   have hjn:j=n:=by omega
   exact absurd ⟨s,fun i hi=>hs i (by omega)⟩ hno
set_option maxHeartbeats 4000000 in
theorem g_ref6_CrtAll_ok {w:World}{b:Nat}(hb:b≤w.heap.size){A B:Option Addr}{n cap cap2:Nat}{rs ms:List Int}{ks js:List Nat}(hr:Zl w A n cap rs ks) (hm:Zl w B n cap2 ms js) (hn:n≤2097152) (hkb:∀i,ks.getD i 0≤16777216) (hjb:∀i,js.getD i 0≤16777216) (hsum:(ms.map ln).sum≤1048576) (h0:∀i,i<ms.length→ms.getD i 0≠0){s:Int}(hs:∀i,i<ms.length→ms.getD i 0∣rs.getD i 0-s):
    Calls Tryz.prog 43 #[.slice A n cap,.slice B n cap2] w (Gv w (T3 (ZR b (s%lcmL ms)) (ZR b (lcmL ms)) (Is (.int .i64 0)))):=by
 refine sx_enter Tryz.func43 rfl (n:=65) rfl (bq rfl) (args:= [.slice A n cap,.slice B n cap2]) (cw_keep [(0,.slice A n cap),(1,.slice B n cap2)] ⟨rfl,rfl,trivial⟩ (sr (al [F0,S0] (Ext.refl w) (fun _=>by kernel_rfl) rfl fun g1 v2 hb4 ge5 e3 hw1=>(alq [F0,S0] hw1 hb4.lt (fun _=>by kernel_rfl) rfl fun g6 v7 hb9 ge10 q11 e8 hw2=>(mv 1 rfl (ne_ (cw_seq (sr (mv 1 rfl (pu (v:= .int .i64 ((n:Nat):Int)) rfl (by kernel_rfl) (mv 1 rfl (pu (v:= .int .i64 ((n:Nat):Int)) rfl (by kernel_rfl) (wl_cmp rfl rfl rfl false (cb_ne_f (a:=n) (b:=n) rfl rfl (by omega)) (by decide) ?_)))))))))))))
 refine ne_ (cw_false rfl (cw_skip (eo_then (cw_seq (sr (mv 1 rfl (ne_ (cw_block ?_))))))))
 refine cw_loop (T:=World×Nat)
  (fun⟨wr,k⟩=> [(0,.slice A n cap),(1,.slice B n cap2),(4,.pointer (some ⟨g1,0,none⟩)),(5,.pointer (some ⟨g6,0,none⟩)),(6,.int .i64 0),(7,.int .i64 ((k:Nat):Int))])
  (fun⟨wr,k⟩=>wr)
  (fun⟨wr,k⟩=>(Ext w wr)∧(k≤n)∧(∀i,i<k→ms.getD i 0≠0)∧(Bk wr g1 27 [F0,S0])∧(Bk wr g6 27 [F0,S0]))
  (fun⟨wr,k⟩=>n-k)
  (⟨v7,0⟩:World×Nat) ⟨hw2,Nat.zero_le _,(fun i hi=>by omega),(hb4.ext e8),hb9⟩ rfl ⟨rfl,rfl,rfl,rfl,rfl,rfl,trivial⟩ ?_
 rintro⟨wr,k⟩ ⟨hw1,hk,hz,b_4,b_5⟩
 refine cw_re [(0,.slice A n cap),(1,.slice B n cap2),(4,.pointer (some ⟨g1,0,none⟩)),(5,.pointer (some ⟨g6,0,none⟩)),(6,.int .i64 0),(7,.int .i64 ((k:Nat):Int))] wr rfl ⟨rfl,rfl,rfl,rfl,rfl,rfl,trivial⟩ (cw_seq (cw_seq ?_))
 by_cases hkn:k<n
 · 
  refine cw_region (mv 2 rfl (pu (v:= .int .i64 ((n:Nat):Int)) rfl (by kernel_rfl) (wl_cmp rfl rfl rfl true (cb_lt_t (a:=k) (b:=n) rfl rfl (by omega)) (by decide) (ne_ (cw_true rfl (cw_skip (eo_then (cw_seq (cw_block (cw_seq ?_))))))))))
  have hz0:ms.getD k 0≠0:=h0 k (by rw [hm.len];omega)
  refine cw_region (mv 2 rfl ?_)
  obtain⟨pz12,sz12,Bz12,cz12,hpz12,ldz12,ez12⟩:=hm.at (i:=k) (by omega)
  refine wl_idx rfl rfl rfl elemI aggInt.size k rfl (by omega) pz12 hpz12 (by decide) (wl_load rfl rfl (ldz12 _ hw1 _ _ aggInt) (by decide) (cl (vs:= [.agg #[.bool sz12,.slice Bz12 (js.getD k 0) cz12]]) hw1 (g_ref5_Sign (ez12.ext hw1) (Nat.le_trans (hjb k) (by decide))) rfl (by kernel_rfl) fun xr15 v13 r15 e14 hw2=>?_))
  obtain rfl:=r15
  refine wl_cmp rfl rfl rfl false (scmp_eq_f hz0) (by decide) (ne_ (cw_false rfl (cw_skip (eo_block_normal (eo_then (cw_region (mv 1 rfl (wl_ar rfl rfl rfl ((k+1:Nat):Int) (ai_add (a:=k) (b:=1) rfl rfl (by omega)) (by decide) (mv 1 rfl (wl_nil (eo_round (⟨v13,k+1⟩:World×Nat) ⟨hw2,(by omega),(fun i hi=>if h:i<k then hz i h else (show i=k by omega)▸hz0),(b_4.ext e14),(b_5.ext e14)⟩ (show n-(k+1)<n-k by omega) rfl ⟨rfl,rfl,rfl,rfl,rfl,rfl,trivial⟩)))))))))))
 · 
  refine cw_region (mv 2 rfl (pu (v:= .int .i64 ((n:Nat):Int)) rfl (by kernel_rfl) (wl_cmp rfl rfl rfl false (cb_lt_f (a:=k) (b:=n) rfl rfl (by omega)) (by decide) (ne_ (cw_false rfl (cw_exit (eo_thenX (eo_loopX (eo_block_here (eo_then (sr (pu (v:= .agg #[F0,S0]) rfl (by kernel_rfl) ?_))))))))))))
  have hb17:=b_4
  refine so aggInt hb17 [F0,S0] hw1 ge5 rfl rfl rfl rfl fun v16 hb18 u19 hw2=>(ne_ (sr (cl (vs:= []) hw2 (g_ref6_one (w:=v16) hw2.size) rfl (by kernel_rfl) fun xr23 v21 r23 e22 hw3=>?_)))
  obtain⟨s24,A24,n24,c24,rfl,z24⟩:=r23
  have hb26:=((b_5.updN u19 (by omega)).ext e22)
  refine so aggInt hb26 [.bool s24,.slice A24 n24 c24] hw3 ge10 rfl rfl rfl rfl fun v25 hb27 u28 hw4=>(ne_ (cw_seq (sr (mv 1 rfl (ne_ (cw_block ?_))))))
  refine cw_loop (T:=World×Nat×ZC×ZC)
   (fun⟨wq,j,kr,km⟩=> [(0,.slice A n cap),(1,.slice B n cap2),(4,.pointer (some ⟨g1,0,none⟩)),(5,.pointer (some ⟨g6,0,none⟩)),(6,.int .i64 0),(8,.int .i64 ((j:Nat):Int))])
   (fun⟨wq,j,kr,km⟩=>wq)
   (fun⟨wq,j,kr,km⟩=>(Ext w wq)∧(j≤n)∧(Bk wq g1 27 [.bool kr.s,.slice kr.A kr.n kr.c])∧(Bk wq g6 27 [.bool km.s,.slice km.A km.n km.c])∧(Zr wq w.heap.size kr.s kr.A kr.n kr.c (s%lcmL (ms.take j)))∧(Zr wq w.heap.size km.s km.A km.n km.c (lcmL (ms.take j))))
   (fun⟨wq,j,kr,km⟩=>n-j)
   (⟨v25,0,⟨false,none,0,0⟩,⟨s24,A24,n24,c24⟩⟩:World×Nat×ZC×ZC) ⟨hw4,Nat.zero_le _,((hb18.ext e22).updN u28 (by omega)),hb27,(Zr.zero.cast (by rw [List.take_zero];exact (Int.emod_one _).symm)),((z24.updT hb26 u28)).cast (by rfl)⟩ rfl ⟨rfl,rfl,rfl,rfl,rfl,rfl,trivial⟩ ?_
  rintro⟨wq,j,kr,km⟩ ⟨hw1,hj,b_4,b_5,zr,zm⟩
  refine cw_re [(0,.slice A n cap),(1,.slice B n cap2),(4,.pointer (some ⟨g1,0,none⟩)),(5,.pointer (some ⟨g6,0,none⟩)),(6,.int .i64 0),(8,.int .i64 ((j:Nat):Int))] wq rfl ⟨rfl,rfl,rfl,rfl,rfl,rfl,trivial⟩ (cw_seq (cw_seq ?_))
  by_cases hjn0:j<n
  · 
   refine cw_region (mv 2 rfl (pu (v:= .int .i64 ((n:Nat):Int)) rfl (by kernel_rfl) (wl_cmp rfl rfl rfl true (cb_lt_t (a:=j) (b:=n) rfl rfl (by omega)) (by decide) (ne_ (cw_true rfl (cw_skip (eo_then (cw_seq (cw_block (cw_seq ?_))))))))))
   have hL0:lcmL (ms.take j)≠0:=lcmL_ne h0 j
   obtain⟨pz30,sz30,Bz30,cz30,hpz30,ldz30,ez30⟩:=hr.at (i:=j) (by omega)
   obtain⟨pz31,sz31,Bz31,cz31,hpz31,ldz31,ez31⟩:=hm.at (i:=j) (by omega)
   have L32:ln ((Int.lcm (lcmL (ms.take j)) (ms.getD j 0):Int))≤1048577:=(by rw [lcmL_succ (by rw [hm.len];omega)];exact ln_lcmL_le hsum (j+1))
   have L33:ln (s%(Int.lcm (lcmL (ms.take j)) (ms.getD j 0):Int))≤1048577:=Nat.le_trans (ln_emod (lcm_ne hL0 (h0 j (by rw [hm.len];omega)))) L32
   refine cw_drawA mix 17 [12,13,14] [15,16] [Is (.agg #[.bool kr.s,.slice kr.A kr.n kr.c]),Is (.agg #[.bool km.s,.slice km.A km.n km.c]),Is (.slice A n cap),Is (.int .i64 ((j:Nat):Int)),Is (.pointer (some pz30)),Is (.agg #[.bool sz30,.slice Bz30 (ks.getD j 0) cz30]),Is (.slice B n cap2),Is (.int .i64 ((j:Nat):Int)),Is (.pointer (some pz31)),Is (.agg #[.bool sz31,.slice Bz31 (js.getD j 0) cz31]),T3 (ZR w.heap.size (s%(Int.lcm (lcmL (ms.take j)) (ms.getD j 0):Int))) (ZR w.heap.size ((Int.lcm (lcmL (ms.take j)) (ms.getD j 0):Int))) (Is (.int .i64 0)),T3 (ZR w.heap.size (s%(Int.lcm (lcmL (ms.take j)) (ms.getD j 0):Int))) (ZR w.heap.size ((Int.lcm (lcmL (ms.take j)) (ms.getD j 0):Int))) (Is (.int .i64 0)),ZR w.heap.size (s%(Int.lcm (lcmL (ms.take j)) (ms.getD j 0):Int)),ZR w.heap.size ((Int.lcm (lcmL (ms.take j)) (ms.getD j 0):Int)),Is (.int .i64 0),PR wq.heap.size 27 [F0,S0],PR wq.heap.size 27 [F0,S0]] [[],[],[],[],[2,3],[4],[],[],[6,7],[8],[0,1,5,9],[10],[11],[11],[11],[],[]] [[],[],[],[],[2,3],[2,3,4],[],[],[6,7],[6,7,8],[0,1,2,3,4,5,6,7,8,9],[0,1,2,3,4,5,6,7,8,9,10],[0,1,2,3,4,5,6,7,8,9,10,11],[0,1,2,3,4,5,6,7,8,9,10,11],[0,1,2,3,4,5,6,7,8,9,10,11],[],[],[0,1,2,3,4,5,6,7,8,9,10,11,12,15,16],[0,1,2,3,4,5,6,7,8,9,10,11,12,13,15,16,17],[0,1,2,3,4,5,6,7,8,9,10,11,12,13,14,15,16,17,18]] rfl rfl ⟨fun _ _ h=>PR.old h,fun _ _ h=>PR.old h,trivial⟩
    (obs_cons rfl rfl (hob rfl rfl ?_) (obs_cons rfl rfl (hob rfl rfl ?_) (obs_cons rfl rfl (hob rfl rfl ?_) (obs_cons rfl rfl (hob rfl rfl ?_) (obs_cons rfl rfl (hob rfl rfl ?_) (obs_cons rfl rfl (hob rfl rfl ?_) (obs_cons rfl rfl (hob rfl rfl ?_) (obs_cons rfl rfl (hob rfl rfl ?_) (obs_cons rfl rfl (hob rfl rfl ?_) (obs_cons rfl rfl (hob rfl rfl ?_) (obs_cons rfl rfl (hob rfl rfl ?_) (obs_cons rfl rfl (hob rfl rfl ?_) (obs_float rfl rfl (fob rfl ?_) (obs_float rfl rfl (fob rfl ?_) (obs_float rfl rfl (fob rfl ?_) (obs_cons rfl rfl (hobA rfl ?_) (obs_cons rfl rfl (hobA rfl ?_) obs_nil))))))))))))))))) ?_
   · 
    exact fun _ e43=>deps_nil (lo aggInt (b_4.ext e43) [.bool kr.s,.slice kr.A kr.n kr.c] rfl rfl rfl (pi_done rfl (Ext.refl _) rfl))
   · 
    exact fun _ e45=>deps_nil (lo aggInt (b_5.ext e45) [.bool km.s,.slice km.A km.n km.c] rfl rfl rfl (pi_done rfl (Ext.refl _) rfl))
   · 
    exact fun _ _=>deps_nil (mv 1 rfl (pi_done rfl (Ext.refl _) rfl))
   · 
    exact fun _ _=>deps_nil (mv 1 rfl (pi_done rfl (Ext.refl _) rfl))
   · 
    exact fun _ _=>dk rfl rfl (dk rfl rfl (deps_nil (wl_idx rfl rfl rfl elemI aggInt.size j rfl (by omega) pz30 hpz30 (by decide) (pi_done rfl (Ext.refl _) rfl))))
   · 
    intro v62 e63
    have hw2:=hw1.trans e63
    refine dk rfl rfl (deps_nil (wl_load rfl rfl (ldz30 _ hw2 _ _ aggInt) (by decide) ?_))
    exact pi_done rfl (Ext.refl _) rfl
   · 
    exact fun _ _=>deps_nil (mv 1 rfl (pi_done rfl (Ext.refl _) rfl))
   · 
    exact fun _ _=>deps_nil (mv 1 rfl (pi_done rfl (Ext.refl _) rfl))
   · 
    exact fun _ _=>dk rfl rfl (dk rfl rfl (deps_nil (wl_idx rfl rfl rfl elemI aggInt.size j rfl (by omega) pz31 hpz31 (by decide) (pi_done rfl (Ext.refl _) rfl))))
   · 
    intro v85 e86
    have hw2:=hw1.trans e86
    refine dk rfl rfl (deps_nil (wl_load rfl rfl (ldz31 _ hw2 _ _ aggInt) (by decide) ?_))
    exact pi_done rfl (Ext.refl _) rfl
   · 
    intro v92 e93
    have hw2:=hw1.trans e93
    refine dk rfl rfl (dk rfl rfl (dk rfl rfl (dk rfl rfl (deps_nil ?_))))
    have L114:ln ((Int.lcm (lcmL (ms.take j)) (ms.getD j 0):Int))≤1048577:=(by rw [lcmL_succ (by rw [hm.len];omega)];exact ln_lcmL_le hsum (j+1))
    have L115:ln (s%(Int.lcm (lcmL (ms.take j)) (ms.getD j 0):Int))≤1048577:=Nat.le_trans (ln_emod (lcm_ne hL0 (h0 j (by rw [hm.len];omega)))) L114
    refine cl (vs:= [.agg #[.bool kr.s,.slice kr.A kr.n kr.c],.agg #[.bool km.s,.slice km.A km.n km.c],.agg #[.bool sz30,.slice Bz30 (ks.getD j 0) cz30],.agg #[.bool sz31,.slice Bz31 (js.getD j 0) cz31]]) hw2 (g_ref6_Crt_ok hw2.size (zr.ext e93).zi (zr.le (Nat.le_trans (Nat.le_trans (ln_emod (lcmL_ne h0 j)) (ln_lcmL_le hsum j)) (by decide))) (zm.ext e93).zi (zm.le (Nat.le_trans (ln_lcmL_le hsum j) (by decide))) (ez30.ext hw2) (Nat.le_trans (hkb j) (by decide)) (ez31.ext hw2) (Nat.le_trans (hjb j) (by decide)) hL0 (h0 j (by rw [hm.len];omega)) (dvd_emod_sub s _) (hs j (by rw [hm.len];omega))) rfl (by kernel_rfl) fun xr118 v116 r118 e117 hw3=>?_
    obtain⟨_,_,_,rfl,⟨s120,A120,n120,c120,rfl,z120⟩,⟨s121,A121,n121,c121,rfl,z121⟩,rfl⟩:=r118
    exact pi_done rfl e117 ⟨_,_,_,rfl,⟨_,_,_,_,rfl,z120⟩,⟨_,_,_,_,rfl,z121⟩,rfl⟩
   · 
    intro v122 e123
    refine deps_cons rfl rfl fun x124 y125 h126 e127 f128=>?_
    obtain⟨_,_,_,rfl,⟨s130,A130,n130,c130,rfl,z130⟩,⟨s131,A131,n131,c131,rfl,z131⟩,rfl⟩:=h126
    have z130:=z130.ext f128
    have z131:=z131.ext f128
    refine deps_nil (mv 1 rfl ?_)
    exact pi_done rfl (Ext.refl _) ⟨_,_,_,rfl,⟨_,_,_,_,rfl,z130⟩,⟨_,_,_,_,rfl,z131⟩,rfl⟩
   · 
    intro v132 e133
    refine deps_cons rfl rfl fun x134 y135 h136 e137 f138=>?_
    obtain⟨_,_,_,rfl,⟨s140,A140,n140,c140,rfl,z140⟩,⟨s141,A141,n141,c141,rfl,z141⟩,rfl⟩:=h136
    have z140:=z140.ext f138
    have z141:=z141.ext f138
    refine deps_nil ?_
    exact⟨.agg #[.bool s140,.slice A140 n140 c140],rfl,rfl,fun _=>by kernel_rfl,⟨_,_,_,_,rfl,z140⟩⟩
   · 
    intro v142 e143
    refine deps_cons rfl rfl fun x144 y145 h146 e147 f148=>?_
    obtain⟨_,_,_,rfl,⟨s150,A150,n150,c150,rfl,z150⟩,⟨s151,A151,n151,c151,rfl,z151⟩,rfl⟩:=h146
    have z150:=z150.ext f148
    have z151:=z151.ext f148
    refine deps_nil ?_
    exact⟨.agg #[.bool s151,.slice A151 n151 c151],rfl,rfl,fun _=>by kernel_rfl,⟨_,_,_,_,rfl,z151⟩⟩
   · 
    intro v152 e153
    refine deps_cons rfl rfl fun x154 y155 h156 e157 f158=>?_
    obtain⟨_,_,_,rfl,⟨s160,A160,n160,c160,rfl,z160⟩,⟨s161,A161,n161,c161,rfl,z161⟩,rfl⟩:=h156
    have z160:=z160.ext f158
    have z161:=z161.ext f158
    refine deps_nil ?_
    exact⟨.int .i64 0,rfl,rfl,fun _=>by kernel_rfl,rfl⟩
   · 
    intro v162 e163
    refine deps_nil (wl_alloc rfl (z:= .agg #[F0,S0]) (vs:= [F0,S0]) (fun _=>by kernel_rfl) rfl (by decide) fun g164 v165 nb=>?_)
    exact pi_done rfl nb.ext ⟨⟨_,rfl,by rw [←nb.at_];exact e163.size,nb.bk⟩,_,rfl,Nat.le_of_eq nb.at_⟩
   · 
    intro v166 e167
    refine deps_nil (wl_alloc rfl (z:= .agg #[F0,S0]) (vs:= [F0,S0]) (fun _=>by kernel_rfl) rfl (by decide) fun g168 v169 nb=>?_)
    exact pi_done rfl nb.ext ⟨⟨_,rfl,by rw [←nb.at_];exact e167.size,nb.bk⟩,_,rfl,Nat.le_of_eq nb.at_⟩
   · 
    intro v170 e171
    have hw2:=hw1.trans e171
    refine dk rfl rfl (dk rfl rfl (dk rfl rfl (dk rfl rfl (dk rfl rfl (dk rfl rfl (dk rfl rfl (dk rfl rfl (dk rfl rfl (dk rfl rfl (deps_cons rfl rfl fun x222 y223 h224 e225 f226=>?_))))))))))
    obtain⟨_,_,_,rfl,⟨s228,A228,n228,c228,rfl,z228⟩,⟨s229,A229,n229,c229,rfl,z229⟩,rfl⟩:=h224
    have z228:=z228.ext f226
    have z229:=z229.ext f226
    refine deps_cons rfl rfl fun x230 y231 h232 e233 f234=>?_
    obtain⟨_,_,_,rfl,⟨s236,A236,n236,c236,rfl,z236⟩,⟨s237,A237,n237,c237,rfl,z237⟩,rfl⟩:=h232
    have z236:=z236.ext f234
    have z237:=z237.ext f234
    refine deps_cons rfl rfl fun x238 y239 h240 e241 f242=>?_
    obtain⟨s243,A243,n243,c243,rfl,z243⟩:=h240
    have z243:=z243.ext f242
    refine deps_cons rfl rfl fun x244 y245 h246 e247 f248=>?_
    obtain⟨s249,A249,n249,c249,rfl,z249⟩:=h246
    have z249:=z249.ext f248
    refine dk rfl rfl (deps_cons rfl rfl fun x255 y256 h257 e258 f259=>?_)
    obtain⟨g260,rfl,ge262,hb261⟩:=h257
    have hb261:=hb261.ext f259
    have q263:g6<g260:=Nat.lt_of_lt_of_le b_5.lt ge262
    have ge262:w.heap.size≤g260:=Nat.le_trans hw1.size ge262
    refine deps_cons rfl rfl fun x264 y265 h266 e267 f268=>?_
    obtain⟨g269,rfl,ge271,hb270⟩:=h266
    have hb270:=hb270.ext f268
    have q272:g6<g269:=Nat.lt_of_lt_of_le b_5.lt ge271
    have ge271:w.heap.size≤g269:=Nat.le_trans hw1.size ge271
    refine deps_nil ?_
    intro hdist
    have q273:g269≠g260:=fun e=>hdist 16 (by decide) 15 (by decide) (by decide) _ _ rfl rfl _ rfl (by rw [e];rfl)
    clear hdist
    refine so aggInt hb261 [.bool s243,.slice A243 n243 c243] hw2 ge262 rfl rfl rfl rfl fun v274 hb276 u277 hw3=>?_
    have hb280:=(hb270.updN u277 (by omega))
    refine so aggInt hb280 [.bool s249,.slice A249 n249 c249] hw3 ge271 rfl rfl rfl rfl fun v279 hb281 u282 hw4=>(mv 1 rfl (wl_nil (eo_np (eo_then (cw_seq (sr (mv 1 rfl (wl_cmp rfl rfl rfl false (by decide) (by decide) (ne_ (cw_false rfl (cw_skip (eo_then (cw_seq ?_)))))))))))))
    refine cw_region (lo aggInt (hb276.updN u282 (by omega)) [.bool s243,.slice A243 n243 c243] rfl rfl rfl ?_)
    have hb285:=(((b_4.ext e171).updN u277 (by omega)).updN u282 (by omega))
    refine so aggInt hb285 [.bool s243,.slice A243 n243 c243] hw4 ge5 rfl rfl rfl rfl fun v284 hb286 u287 hw5=>(ne_ (cw_region (lo aggInt (hb281.updN u287 (by omega)) [.bool s249,.slice A249 n249 c249] rfl rfl rfl ?_)))
    have hb290:=((((b_5.ext e171).updN u277 (by omega)).updN u282 (by omega)).updN u287 (by omega))
    refine so aggInt hb290 [.bool s249,.slice A249 n249 c249] hw5 ge10 rfl rfl rfl rfl fun v289 hb291 u292 hw6=>(wl_nil (eo_block_normal (eo_then (cw_region (mv 1 rfl (wl_ar rfl rfl rfl ((j+1:Nat):Int) (ai_add (a:=j) (b:=1) rfl rfl (by omega)) (by decide) (mv 1 rfl (wl_nil (eo_round (⟨v289,j+1,⟨s243,A243,n243,c243⟩,⟨s249,A249,n249,c249⟩⟩:World×Nat×ZC×ZC) ⟨hw6,(by omega),(hb286.updN u292 (by omega)),hb291,(((((z243.updT hb261 u277).updT hb280 u282).updT hb285 u287).updT hb290 u292)).cast (by rw [lcmL_succ (by rw [hm.len];omega)]),(((((z249.updT hb261 u277).updT hb280 u282).updT hb285 u287).updT hb290 u292)).cast (lcmL_succ (by rw [hm.len];omega))⟩ (show n-(j+1)<n-j by omega) rfl ⟨rfl,rfl,rfl,rfl,rfl,rfl,trivial⟩)))))))))
  · 
   have hjn:j=n:=by omega
   refine cw_region (mv 2 rfl (pu (v:= .int .i64 ((n:Nat):Int)) rfl (by kernel_rfl) (wl_cmp rfl rfl rfl false (cb_lt_f (a:=j) (b:=n) rfl rfl (by omega)) (by decide) (ne_ (cw_false rfl (cw_exit (eo_thenX (eo_loopX (eo_block_here (eo_then (cw_seq (cw_keep [(0,.slice A n cap),(1,.slice B n cap2),(4,.pointer (some ⟨g1,0,none⟩)),(5,.pointer (some ⟨g6,0,none⟩)),(8,.int .i64 ((j:Nat):Int)),(35,.int .i64 ((j:Nat):Int)),(36,.slice B n cap2),(37,.int .i64 ((n:Nat):Int)),(38,.bool false)] ⟨rfl,rfl,rfl,rfl,rfl,rfl,rfl,rfl,rfl,trivial⟩ ?_))))))))))))
   obtain⟨v294,hv,e295⟩:∃v,v=wq.drew∧Ext wq v:=⟨_,rfl,(Ext.refl _).drew⟩
   have hw2:=hw1.trans e295
   have hb297:=(b_4.ext e295)
   obtain⟨v296,hr301,hb298,u299,hs300⟩:=run_stored (P:=Tryz.prog) (us:= [.bool kr.s,.slice kr.A kr.n kr.c]) (off:=0) aggInt rfl hb297 (bq rfl) rfl [.bool kr.s,.slice kr.A kr.n kr.c] rfl
   have hw3:=u299.ext hw2 ge5
   have hb303:=((b_5.ext e295).updN u299 (by omega))
   obtain⟨v302,hr307,hb304,u305,hs306⟩:=run_stored (P:=Tryz.prog) (us:= [.bool km.s,.slice km.A km.n km.c]) (off:=0) aggInt rfl hb303 (bq rfl) rfl [.bool km.s,.slice km.A km.n km.c] rfl
   have hw4:=u305.ext hw3 ge10
   refine cw_det mix (w:=v294) [.agg #[.bool kr.s,.slice kr.A kr.n kr.c],.agg #[.bool km.s,.slice km.A km.n km.c],undef,undef,I0] [v294,v296,v302] [2,3] [[],[],[0],[1],[]] [[],[],[0],[0,1,2],[0,1,2,3]] [(0,0),(1,0),(1,1),(2,0),(3,1),(4,2)] rfl hv ?_ ?_
   · 
    refine dobs_val _ rfl rfl rfl rfl rfl (rd_load rfl (load_agg aggInt (b_4.ext e295) [.bool kr.s,.slice kr.A kr.n kr.c] rfl (bq rfl) rfl)) (dobs_val _ rfl rfl rfl rfl rfl (rd_load rfl (load_agg aggInt (b_5.ext e295) [.bool km.s,.slice km.A km.n km.c] rfl (bq rfl) rfl)) (dobs_val _ rfl rfl rfl rfl rfl (rd_load rfl (load_agg aggInt ((b_5.ext e295).updN u299 (by omega)) [.bool km.s,.slice km.A km.n km.c] rfl (bq rfl) rfl)) (dobs_sto _ rfl rfl rfl rfl rfl (rd_store rfl rfl hr301) (dobs_sto _ rfl rfl rfl rfl rfl (rd_store rfl rfl hr307) (dobs_val _ rfl rfl rfl rfl rfl (rd_assign rfl) ?_)))))
    exact dobs_nil
   clear hv
   refine eo_keep [(0,.slice A n cap),(1,.slice B n cap2),(4,.pointer (some ⟨g1,0,none⟩)),(5,.pointer (some ⟨g6,0,none⟩)),(8,.int .i64 ((j:Nat):Int)),(35,.int .i64 ((j:Nat):Int)),(36,.slice B n cap2),(37,.int .i64 ((n:Nat):Int)),(38,.bool false),(63,.agg #[.bool kr.s,.slice kr.A kr.n kr.c]),(64,.agg #[.bool km.s,.slice km.A km.n km.c]),(6,.int .i64 0)] ⟨rfl,rfl,rfl,rfl,rfl,rfl,rfl,rfl,rfl,rfl,rfl,rfl,trivial⟩ (eo_then (cw_ret (eo_ret [.agg #[.bool kr.s,.slice kr.A kr.n kr.c],.agg #[.bool km.s,.slice km.A km.n km.c],I0] rfl ⟨⟨_,rfl,load_agg aggInt (hb298.updN u305 (by omega)) [.bool kr.s,.slice kr.A kr.n kr.c] rfl (bq rfl) rfl⟩,⟨_,rfl,load_agg aggInt hb304 [.bool km.s,.slice km.A km.n km.c] rfl (bq rfl) rfl⟩,rfl,trivial⟩ ?_)))
   have hfull:ms.take j=ms:=by rw [hjn,zl_full hm]
   exact⟨_,rfl,⟨_,_,_,rfl,⟨_,_,_,_,rfl,(((((zr.ext e295).updT hb297 u299).updT hb303 u305)).cast (by rw [hfull])).mono hb⟩,⟨_,_,_,_,rfl,(((((zm.ext e295).updT hb297 u299).updT hb303 u305)).cast (by rw [hfull])).mono hb⟩,rfl⟩,hw4⟩
set_option maxHeartbeats 4000000 in
theorem g_bezout_CrtAll_fit {w:World}{b:Nat}(hb:b≤w.heap.size){A B:Option Addr}{n m cap cap2:Nat}(hne:n≠m):
    Calls Tryz.prog 51 #[.slice A n cap,.slice B m cap2] w (Gv w (T3 (ZR b 0) (ZR b 0) (Is (.int .i64 2)))):=by
 refine sx_enter Tryz.func51 rfl (n:=58) rfl (bq rfl) (args:= [.slice A n cap,.slice B m cap2]) (cw_keep [(0,.slice A n cap),(1,.slice B m cap2)] ⟨rfl,rfl,trivial⟩ (sr (al [F0,S0] (Ext.refl w) (fun _=>by kernel_rfl) rfl fun g1 v2 hb4 ge5 e3 hw1=>(alq [F0,S0] hw1 hb4.lt (fun _=>by kernel_rfl) rfl fun g6 v7 hb9 ge10 q11 e8 hw2=>(mv 1 rfl (ne_ (cw_seq (sr (mv 1 rfl (pu (v:= .int .i64 ((n:Nat):Int)) rfl (by kernel_rfl) (mv 1 rfl (pu (v:= .int .i64 ((m:Nat):Int)) rfl (by kernel_rfl) (wl_cmp rfl rfl rfl true (cb_ne_t (a:=n) (b:=m) rfl rfl (by omega)) (by decide) ?_)))))))))))))
 refine ne_ (cw_true rfl (sr (pu (v:= .agg #[F0,S0]) rfl (by kernel_rfl) (pu (v:= .agg #[F0,S0]) rfl (by kernel_rfl) ?_))))
 have hb13:=(hb4.ext e8)
 refine so aggInt hb13 [F0,S0] hw2 ge5 rfl rfl rfl rfl fun v12 hb14 u15 hw3=>?_
 have hb18:=(hb9.updN u15 (by omega))
 refine so aggInt hb18 [F0,S0] hw3 ge10 rfl rfl rfl rfl fun v17 hb19 u20 hw4=>(mv 1 rfl (ne_ (cw_ret (eo_thenR (eo_ret [.agg #[F0,S0],.agg #[F0,S0],.int .i64 2] rfl ⟨⟨_,rfl,load_agg aggInt (hb14.updN u20 (by omega)) [F0,S0] rfl (bq rfl) rfl⟩,⟨_,rfl,load_agg aggInt hb19 [F0,S0] rfl (bq rfl) rfl⟩,rfl,trivial⟩ ?_)))))
 exact⟨_,rfl,⟨_,_,_,rfl,⟨_,_,_,_,rfl,((((Zr.zero (w:=v7) (base:=w.heap.size)).updT hb13 u15).updT hb18 u20)).mono hb⟩,⟨_,_,_,_,rfl,((((Zr.zero (w:=v7) (base:=w.heap.size)).updT hb13 u15).updT hb18 u20)).mono hb⟩,rfl⟩,hw4⟩
section
variable {P:Program}{Q:Exit→Act→World→Prop}{n:Nat}{l:Fr}{w:World}{ops:Array Oper}{rest:List Oper}{d:Nat}{op:Op}{ty:TypeId}{pos:String}{af:Array Edge}{gd:Option (Nat×Bool)}
def notEq:BinOp→Bool
 | .eql=>false
 | .neq=>false
 | _=>true
theorem run_op {o:BinOp}{t:TypeId}{x y:Operand}{u v r:Value}(ho:notEq o=true) (hb:(binOp o t u v).run P w= .ok r w):((do eqGuard o t x y u v;binOp o t u v):Sem Value).run P w= .ok r w:=by
 cases o <;> first | (cases ho;done) | (simp only [eqGuard,Sem.run_bind];exact hb) | (simp [eqGuard,Sem.run_bind,hb])
theorem wl_op {o:BinOp}{t t':TypeId}{x y:Operand}{u v r:Value}(hw:guardB ops l gd=some true) (hx:evo l x=some u) (hy:evo l y=some v) (ho:notEq o=true) (hb:∀w,(binOp o t u v).run P w= .ok r w) (hn:d<n)
  (h:wl P ops Q n rest ((d,r)::l) w):wl P ops Q n (⟨some d,.binOp o t x y t',ty,pos,af,gd⟩::rest) l w:=
 wl_val hw hn (fun a' ha=>by
  have e:((do eqGuard o t x y (a'.eval x) (a'.eval y);binOp o t (a'.eval x) (a'.eval y)):Sem Value).run P w= .ok r w:=by
   rw [ha.ev hx,ha.ev hy];exact run_op ho (hb w)
  show ((((do eqGuard o t x y (a'.eval x) (a'.eval y);binOp o t (a'.eval x) (a'.eval y)):Sem Value)>>=fun r=>pure (Next.value r)):Sem Next).run P w=_
  rw [Sem.run_bind,e];rfl) h
theorem wl_pureE {v v':Value}(hw:guardB ops l gd=some true) (hk:known l op=true) (hn:d<n) (hr:(execOp (rho l) ⟨some d,op,ty,pos,af,gd⟩).run P w= .ok (.value v) w) (e:v=v')
  (h:wl P ops Q n rest ((d,v')::l) w):wl P ops Q n (⟨some d,op,ty,pos,af,gd⟩::rest) l w:=wl_pure hw hk hn hr (by rw [e];exact h)
end
theorem u64_and1 {x:Nat}(hx:x≤18446744073709551615) (P:Program) (t:TypeId) (w:World):(binOp .and t (.int .u64 (x:Int)) (.int .u64 1)).run P w= .ok (.int .u64 ((x%2:Nat):Int)) w:=by
 have e:=and_one_u64 (x:Int) (by omega) (by omega)
 have e2:(binOp .and t (.int .u64 (x:Int)) (.int .u64 1)).run P w= .ok (.int .u64 (bits BinOp.and IntKind.u64 (x:Int) 1)) w:=rfl
 rw [e2,e,Int.natCast_emod];rfl
theorem cv_u64 {x:Nat}(h:x≤18446744073709551615):Value.int .u64 (IntKind.u64.wrap (x:Int))= .int .u64 (x:Int):=by rw [IntWalk.u64_in _ ⟨by omega,by omega⟩]
theorem cv_i64 {x:Nat}(h:x≤9223372036854775807):Value.int .i64 (IntKind.i64.wrap (x:Int))= .int .i64 (x:Int):=by rw [IntWalk.i64_in _ ⟨by omega,by omega⟩]
theorem bit_high {xs:List Nat}(hw:Wf xs){n i:Nat}(hl:xs.length=n) (h:n≤i/64):nv xs/2^i%2=0:=by
 have h1:=nv_lt hw
 rw [hl,WB_pow,←Nat.pow_mul] at h1
 have h2:2^(64*n)≤2^i:=Nat.pow_le_pow_right (by omega) (by omega)
 rw [Nat.div_eq_of_lt (by omega)]
theorem bit_low {xs:List Nat}(hw:Wf xs){n i:Nat}(hl:xs.length=n) (h:i/64<n):nv xs/2^i%2=xs.getD (i/64) 0/2^(i%64)%2:=by
 have h1:=nv_split xs (i/64) (by omega)
 have h2:nv (xs.drop (i/64))=xs.getD (i/64) 0+WB*nv (xs.drop (i/64+1)):=by
  rw [nv_nb,nv_nb,List.drop_eq_getElem_cons (by omega),nb_cons,List.getD_eq_getElem?_getD,List.getElem?_eq_getElem (by omega)];rfl
 have h3:2^i=WB^(i/64)*2^(i%64):=by
  rw [WB_pow,←Nat.pow_mul,←Nat.pow_add];congr 1;omega
 have h4:nv (xs.take (i/64))<WB^(i/64):=nv_take_lt hw _
 rw [h1,h3,←Nat.div_div_eq_div_mul,Nat.add_mul_div_left _ _ (Nat.pow_pos (by decide)),Nat.div_eq_of_lt h4,Nat.zero_add,h2]
 have h5:WB=2^(i%64)*(2*2^(63-i%64)):=by
  rw [WB_pow,←Nat.pow_succ',←Nat.pow_add];congr 1;omega
 conv=>lhs;rw [h5]
 rw [Nat.mul_assoc,Nat.add_mul_div_left _ _ (Nat.pow_pos (by decide)),Nat.mul_assoc,Nat.add_mul_mod_self_left]
set_option maxHeartbeats 4000000 in
theorem g_nat_Bit {w:World}{A:Option Addr}{n cap i:Nat}{xs:List Nat}(hx:Rd w A n cap xs) (hi:i≤9223372036854775807):
    Calls Tryz.prog 80 #[.slice A n cap,.int .i64 ((i:Nat):Int)] w (Gv w (Is (.int .i64 ((nv xs/2^i%2:Nat):Int)))):=by
 have hle:=hx.rv.le
 have hmx:=hx.rv.max
 rw [len_maxLen] at hmx
 refine sx_enter Tryz.func80 rfl (n:=25) rfl (bq rfl) (args:= [.slice A n cap,.int .i64 ((i:Nat):Int)]) (cw_keep [(0,.slice A n cap),(1,.int .i64 ((i:Nat):Int))] ⟨rfl,rfl,trivial⟩ (sr (mv 1 rfl (ne_ (cw_seq (cw_seq ?_))))))
 by_cases hin:i/64≥n
 · 
  refine cw_region (mv 1 rfl (wl_cmp rfl rfl rfl false (cb_lt_f (a:=i) (b:=0) rfl rfl (by omega)) (by decide) (mv 2 rfl (wl_ar rfl rfl rfl ((i/64:Nat):Int) (ai_quo (a:=i) (b:=64) rfl rfl (by omega) (by omega)) (by decide) (mv 1 rfl (pu (v:= .int .i64 ((n:Nat):Int)) rfl (by kernel_rfl) (wl_cmp rfl rfl rfl true (cb_ge_t (a:=i/64) (b:=n) rfl rfl (by omega)) (by decide) (pu (v:= .bool true) rfl (by kernel_rfl) (ne_ (cw_true rfl (sr (mv 1 rfl (wl_nil ?_)))))))))))))
  refine eo_then (cw_ret (eo_thenR (eo_ret [I0] rfl ⟨rfl,trivial⟩ ?_)))
  exact⟨_,rfl,(show (.int .i64 0:Value)=Value.int .i64 ((nv xs/2^i%2:Nat):Int) by rw [bit_high hx.wf hx.len (by omega)];rfl),(Ext.refl w)⟩
 · 
  have hxb:xs.getD (i/64) 0≤18446744073709551615:=by have:=Wf_getD hx.wf (i/64);rw [WB_def] at this;omega
  have hsh:xs.getD (i/64) 0/2^(i%64)≤18446744073709551615:=Nat.le_trans (Nat.div_le_self _ _) hxb
  refine cw_region (mv 1 rfl (wl_cmp rfl rfl rfl false (cb_lt_f (a:=i) (b:=0) rfl rfl (by omega)) (by decide) (mv 2 rfl (wl_ar rfl rfl rfl ((i/64:Nat):Int) (ai_quo (a:=i) (b:=64) rfl rfl (by omega) (by omega)) (by decide) (mv 1 rfl (pu (v:= .int .i64 ((n:Nat):Int)) rfl (by kernel_rfl) (wl_cmp rfl rfl rfl false (cb_ge_f (a:=i/64) (b:=n) rfl rfl (by omega)) (by decide) (pu (v:= .bool false) rfl (by kernel_rfl) (ne_ (cw_false rfl (cw_skip (eo_then (cw_seq ?_)))))))))))))
  refine cw_region (mv 2 rfl (wl_ar rfl rfl rfl ((i/64:Nat):Int) (ai_quo (a:=i) (b:=64) rfl rfl (by omega) (by omega)) (by decide) ?_))
  obtain⟨p1,hp1,hc1,hv1⟩:=(hx).at (i:=i/64) (by omega)
  refine wl_idx rfl rfl rfl un_u64 sz_u64 (i/64) rfl (by omega) p1 hp1 (by decide) (wl_load rfl rfl (load_cell1 ag_u64 hc1) (by decide) (mv 1 rfl (wl_ar rfl rfl rfl ((i%64:Nat):Int) (au_rem (a:=i) (b:=64) rfl rfl (by omega)) (by decide) (wl_pureE rfl rfl (v:= .int .u64 (IntKind.u64.wrap ((i%64:Nat):Int))) (v':= .int .u64 ((i%64:Nat):Int)) (by decide) (by kernel_rfl) (cv_u64 (by first | omega | exact hsh)) (wl_op rfl rfl rfl (r:= .int .u64 (((xs.getD (i/64) 0)/2^(i%64):Nat):Int)) rfl (fun w=>u64_shr (x:=xs.getD (i/64) 0) (s:=i%64) (by omega) _ _ w) (by decide) (wl_op rfl rfl rfl (r:= .int .u64 ((((xs.getD (i/64) 0)/2^(i%64))%2:Nat):Int)) rfl (fun w=>u64_and1 (x:=(xs.getD (i/64) 0)/2^(i%64)) (by first | omega | exact hsh) _ _ w) (by decide) (wl_pureE rfl rfl (v:= .int .i64 (IntKind.i64.wrap ((((xs.getD (i/64) 0)/2^(i%64))%2:Nat):Int))) (v':= .int .i64 ((((xs.getD (i/64) 0)/2^(i%64))%2:Nat):Int)) (by decide) (by kernel_rfl) (cv_i64 (by first | omega | exact hsh)) (mv 1 rfl (ne_ (cw_ret (eo_ret [.int .i64 ((((xs.getD (i/64) 0)/2^(i%64))%2:Nat):Int)] rfl ⟨rfl,trivial⟩ ?_)))))))))))
  exact⟨_,rfl,(show (.int .i64 ((((xs.getD (i/64) 0)/2^(i%64))%2:Nat):Int):Value)=Value.int .i64 ((nv xs/2^i%2:Nat):Int) by rw [bit_low hx.wf hx.len (by omega)]),(Ext.refl w)⟩
theorem g_nat_BitLen {w:World}{A:Option Addr}{n c m:Nat}(hx:Wi w A n c m) (hl:n≤1099511627775):Calls Tryz.prog 58 #[.slice A n c] w (Gv w (Is (.int .i64 ((blen m:Nat):Int)))):=by
 obtain⟨xs,h1,rfl⟩:=hx
 refine (nat_BitLen h1 hl).mono fun e w' h=>?_
 obtain⟨k,h2,rfl,h3⟩:=h
 exact⟨_,rfl,(show Value.int .i64 (k:Int)=_ by rw [h2.out]),h3⟩
theorem g_nat_BitI {w:World}{A:Option Addr}{n c m i:Nat}(hx:Wi w A n c m) (hi:i≤9223372036854775807):Calls Tryz.prog 80 #[.slice A n c,.int .i64 (i:Int)] w (Gv w (Is (.int .i64 ((m/2^i%2:Nat):Int)))):=by
 obtain⟨xs,h1,rfl⟩:=hx
 exact g_nat_Bit h1 hi
theorem pow_halve {E j:Nat}:E/2^(j+1)=E/2^j/2:=by rw [Nat.div_div_eq_div_mul,Nat.pow_succ]
theorem pow_even {x z:Int}{E j:Nat}(h:¬E/2^j%2=1):((x^(E/2^(j+1))%z)*(x^(E/2^(j+1))%z))%z=x^(E/2^j)%z:=by
 rw [←Int.mul_emod,←Int.pow_add,pow_halve]
 congr 2
 omega
theorem pow_odd {x z:Int}{E j:Nat}(h:E/2^j%2=1):((((x^(E/2^(j+1))%z)*(x^(E/2^(j+1))%z))%z)*(x%z))%z=x^(E/2^j)%z:=by
 rw [←Int.mul_emod (x^(E/2^(j+1))),←Int.pow_add,←Int.mul_emod,←Int.pow_succ,pow_halve]
 congr 2
 omega
theorem blen_bd {m n:Nat}(h:(wd m).length≤n):blen m≤64*n:=by
 refine blen_le ?_
 have h1:=lt_pow_len m
 rw [WB_pow,←Nat.pow_mul] at h1
 exact Nat.lt_of_lt_of_le h1 (Nat.pow_le_pow_right (by decide) (Nat.mul_le_mul_left _ h))
theorem blen_div {m:Nat}:m/2^blen m=0:=Nat.div_eq_of_lt (lt_blen m)
set_option maxHeartbeats 4000000 in
theorem g_bezout_PowMod_negI {w:World}{sa:Bool}{Aa:Option Addr}{na ca:Nat}{x:Int}{sf:Bool}{Af:Option Addr}{nf cf:Nat}{y:Int}{sb:Bool}{Ab:Option Addr}{nb cb:Nat}{z:Int}(hx:Zi w sa Aa na ca x) (la:na≤8589934592) (hy:Zi w sf Af nf cf y) (lf:nf≤8589934592) (hz:Zi w sb Ab nb cb z) (lb:nb≤8589934592) (h0:y<0):
    Calls Tryz.prog 49 #[.agg #[.bool sa,.slice Aa na ca],.agg #[.bool sf,.slice Af nf cf],.agg #[.bool sb,.slice Ab nb cb]] w (Gv w (T2 (ZR w.heap.size (0)) (Is (.int .i64 3)))):=by
 have Lx:ln x≤8589934592:=Nat.le_trans hx.ln la
 have Ly:ln y≤8589934592:=Nat.le_trans hy.ln lf
 have Lz:ln z≤8589934592:=Nat.le_trans hz.ln lb
 refine sx_enter Tryz.func49 rfl (n:=65) rfl (bq rfl) (args:= [.agg #[.bool sa,.slice Aa na ca],.agg #[.bool sf,.slice Af nf cf],.agg #[.bool sb,.slice Ab nb cb]]) (cw_keep [(0,.agg #[.bool sa,.slice Aa na ca]),(1,.agg #[.bool sf,.slice Af nf cf]),(2,.agg #[.bool sb,.slice Ab nb cb])] ⟨rfl,rfl,rfl,trivial⟩ (sr (bx [.bool sa,.slice Aa na ca] (Ext.refl w) rfl rfl rfl fun g1 v2 hb4 ge5 e3 hw1=>(bxq [.bool sf,.slice Af nf cf] hw1 hb4.lt rfl rfl rfl fun g6 v7 hb9 ge10 q11 e8 hw2=>(bxq [.bool sb,.slice Ab nb cb] hw2 hb9.lt rfl rfl rfl fun g12 v13 hb15 ge16 q17 e14 hw3=>(alq [F0,S0] hw3 hb15.lt (fun _=>by kernel_rfl) rfl fun g18 v19 hb21 ge22 q23 e20 hw4=>(mv 1 rfl (ne_ (cw_seq (cw_block (sr (lo aggInt (hb9.ext (e14.trans e20)) [.bool sf,.slice Af nf cf] rfl rfl rfl (cl (vs:= [.agg #[.bool sf,.slice Af nf cf]]) hw4 (g_zint_Sign (hy.ext hw4) (lx_ lf rfl)) rfl (by kernel_rfl) fun xr26 v24 r26 e25 hw5=>?_)))))))))))))
 obtain rfl:=r26
 refine wl_cmp rfl rfl rfl true (scmp_lt_t h0) (by decide) (mv 1 rfl (ne_ (cw_true rfl (sr (pu (v:= .agg #[F0,S0]) rfl (by kernel_rfl) ?_)))))
 have hb28:=(hb21.ext e25)
 refine so aggInt hb28 [F0,S0] hw5 ge22 rfl rfl rfl rfl fun v27 hb29 u30 hw6=>(mv 1 rfl (ne_ (cw_ret (eo_block_ret (eo_thenR (eo_ret [.agg #[F0,S0],.int .i64 3] rfl ⟨⟨_,rfl,load_agg aggInt hb29 [F0,S0] rfl (bq rfl) rfl⟩,rfl,trivial⟩ ?_))))))
 exact⟨_,rfl,⟨_,_,rfl,⟨_,_,_,_,rfl,((Zr.zero (w:=v24) (base:=w.heap.size)).updT hb28 u30)⟩,rfl⟩,hw6⟩
theorem g_bezout_PowMod_neg {w:World}{sa:Bool}{Aa:Option Addr}{na ca:Nat}{x:Int}{sf:Bool}{Af:Option Addr}{nf cf:Nat}{y:Int}{sb:Bool}{Ab:Option Addr}{nb cb:Nat}{z:Int}{b:Nat}(hb:b≤w.heap.size) (hx:Zi w sa Aa na ca x) (la:na≤8589934592) (hy:Zi w sf Af nf cf y) (lf:nf≤8589934592) (hz:Zi w sb Ab nb cb z) (lb:nb≤8589934592) (h0:y<0):
  Calls Tryz.prog 49 #[.agg #[.bool sa,.slice Aa na ca],.agg #[.bool sf,.slice Af nf cf],.agg #[.bool sb,.slice Ab nb cb]] w (Gv w (T2 (ZR b (0)) (Is (.int .i64 3)))):=(g_bezout_PowMod_negI hx la hy lf hz lb h0).mono (Gv.imp (T2.imp (ZR.imp hb) Is.imp))
set_option maxHeartbeats 4000000 in
theorem g_bezout_PowMod_zeroI {w:World}{sa:Bool}{Aa:Option Addr}{na ca:Nat}{x:Int}{sf:Bool}{Af:Option Addr}{nf cf:Nat}{y:Int}{sb:Bool}{Ab:Option Addr}{nb cb:Nat}{z:Int}(hx:Zi w sa Aa na ca x) (la:na≤8589934592) (hy:Zi w sf Af nf cf y) (lf:nf≤8589934592) (hz:Zi w sb Ab nb cb z) (lb:nb≤8589934592) (h0:0≤y) (hm0:z=0):
    Calls Tryz.prog 49 #[.agg #[.bool sa,.slice Aa na ca],.agg #[.bool sf,.slice Af nf cf],.agg #[.bool sb,.slice Ab nb cb]] w (Gv w (T2 (ZR w.heap.size (0)) (Is (.int .i64 4)))):=by
 have Lx:ln x≤8589934592:=Nat.le_trans hx.ln la
 have Ly:ln y≤8589934592:=Nat.le_trans hy.ln lf
 have Lz:ln z≤8589934592:=Nat.le_trans hz.ln lb
 refine sx_enter Tryz.func49 rfl (n:=65) rfl (bq rfl) (args:= [.agg #[.bool sa,.slice Aa na ca],.agg #[.bool sf,.slice Af nf cf],.agg #[.bool sb,.slice Ab nb cb]]) (cw_keep [(0,.agg #[.bool sa,.slice Aa na ca]),(1,.agg #[.bool sf,.slice Af nf cf]),(2,.agg #[.bool sb,.slice Ab nb cb])] ⟨rfl,rfl,rfl,trivial⟩ (sr (bx [.bool sa,.slice Aa na ca] (Ext.refl w) rfl rfl rfl fun g1 v2 hb4 ge5 e3 hw1=>(bxq [.bool sf,.slice Af nf cf] hw1 hb4.lt rfl rfl rfl fun g6 v7 hb9 ge10 q11 e8 hw2=>(bxq [.bool sb,.slice Ab nb cb] hw2 hb9.lt rfl rfl rfl fun g12 v13 hb15 ge16 q17 e14 hw3=>(alq [F0,S0] hw3 hb15.lt (fun _=>by kernel_rfl) rfl fun g18 v19 hb21 ge22 q23 e20 hw4=>(mv 1 rfl (ne_ (cw_seq (cw_block (sr (lo aggInt (hb9.ext (e14.trans e20)) [.bool sf,.slice Af nf cf] rfl rfl rfl (cl (vs:= [.agg #[.bool sf,.slice Af nf cf]]) hw4 (g_zint_Sign (hy.ext hw4) (lx_ lf rfl)) rfl (by kernel_rfl) fun xr26 v24 r26 e25 hw5=>?_)))))))))))))
 obtain rfl:=r26
 refine wl_cmp rfl rfl rfl false (scmp_lt_f h0) (by decide) (mv 1 rfl (ne_ (cw_false rfl (sr (lo aggInt (hb15.ext (e20.trans e25)) [.bool sb,.slice Ab nb cb] rfl rfl rfl (cl (vs:= [.agg #[.bool sb,.slice Ab nb cb]]) hw5 (g_zint_Sign (hz.ext hw5) (lx_ lb rfl)) rfl (by kernel_rfl) fun xr29 v27 r29 e28 hw6=>?_))))))
 obtain rfl:=r29
 refine wl_cmp rfl rfl rfl true (scmp_eq_t hm0) (by decide) (mv 1 rfl (ne_ (cw_true rfl (sr (pu (v:= .agg #[F0,S0]) rfl (by kernel_rfl) ?_)))))
 have hb31:=(hb21.ext (e25.trans e28))
 refine so aggInt hb31 [F0,S0] hw6 ge22 rfl rfl rfl rfl fun v30 hb32 u33 hw7=>(mv 1 rfl (ne_ (cw_ret (eo_block_ret (eo_thenR (eo_ret [.agg #[F0,S0],.int .i64 4] rfl ⟨⟨_,rfl,load_agg aggInt hb32 [F0,S0] rfl (bq rfl) rfl⟩,rfl,trivial⟩ ?_))))))
 exact⟨_,rfl,⟨_,_,rfl,⟨_,_,_,_,rfl,((Zr.zero (w:=v27) (base:=w.heap.size)).updT hb31 u33)⟩,rfl⟩,hw7⟩
theorem g_bezout_PowMod_zero {w:World}{sa:Bool}{Aa:Option Addr}{na ca:Nat}{x:Int}{sf:Bool}{Af:Option Addr}{nf cf:Nat}{y:Int}{sb:Bool}{Ab:Option Addr}{nb cb:Nat}{z:Int}{b:Nat}(hb:b≤w.heap.size) (hx:Zi w sa Aa na ca x) (la:na≤8589934592) (hy:Zi w sf Af nf cf y) (lf:nf≤8589934592) (hz:Zi w sb Ab nb cb z) (lb:nb≤8589934592) (h0:0≤y) (hm0:z=0):
  Calls Tryz.prog 49 #[.agg #[.bool sa,.slice Aa na ca],.agg #[.bool sf,.slice Af nf cf],.agg #[.bool sb,.slice Ab nb cb]] w (Gv w (T2 (ZR b (0)) (Is (.int .i64 4)))):=(g_bezout_PowMod_zeroI hx la hy lf hz lb h0 hm0).mono (Gv.imp (T2.imp (ZR.imp hb) Is.imp))
set_option maxHeartbeats 4000000 in
theorem g_bezout_PowMod_okI {w:World}{sa:Bool}{Aa:Option Addr}{na ca:Nat}{x:Int}{sf:Bool}{Af:Option Addr}{nf cf:Nat}{y:Int}{sb:Bool}{Ab:Option Addr}{nb cb:Nat}{z:Int}(hx:Zi w sa Aa na ca x) (la:na≤8589934592) (hy:Zi w sf Af nf cf y) (lf:nf≤8589934592) (hz:Zi w sb Ab nb cb z) (lb:nb≤8589934592) (h0:0≤y) (hm0:z≠0):
    Calls Tryz.prog 49 #[.agg #[.bool sa,.slice Aa na ca],.agg #[.bool sf,.slice Af nf cf],.agg #[.bool sb,.slice Ab nb cb]] w (Gv w (T2 (ZR w.heap.size (x^Int.natAbs y%z)) (Is (.int .i64 0)))):=by
 have Lx:ln x≤8589934592:=Nat.le_trans hx.ln la
 have Ly:ln y≤8589934592:=Nat.le_trans hy.ln lf
 have Lz:ln z≤8589934592:=Nat.le_trans hz.ln lb
 refine sx_enter Tryz.func49 rfl (n:=65) rfl (bq rfl) (args:= [.agg #[.bool sa,.slice Aa na ca],.agg #[.bool sf,.slice Af nf cf],.agg #[.bool sb,.slice Ab nb cb]]) (cw_keep [(0,.agg #[.bool sa,.slice Aa na ca]),(1,.agg #[.bool sf,.slice Af nf cf]),(2,.agg #[.bool sb,.slice Ab nb cb])] ⟨rfl,rfl,rfl,trivial⟩ (sr (bx [.bool sa,.slice Aa na ca] (Ext.refl w) rfl rfl rfl fun g1 v2 hb4 ge5 e3 hw1=>(bxq [.bool sf,.slice Af nf cf] hw1 hb4.lt rfl rfl rfl fun g6 v7 hb9 ge10 q11 e8 hw2=>(bxq [.bool sb,.slice Ab nb cb] hw2 hb9.lt rfl rfl rfl fun g12 v13 hb15 ge16 q17 e14 hw3=>(alq [F0,S0] hw3 hb15.lt (fun _=>by kernel_rfl) rfl fun g18 v19 hb21 ge22 q23 e20 hw4=>(mv 1 rfl (ne_ (cw_seq (cw_block (sr (lo aggInt (hb9.ext (e14.trans e20)) [.bool sf,.slice Af nf cf] rfl rfl rfl (cl (vs:= [.agg #[.bool sf,.slice Af nf cf]]) hw4 (g_zint_Sign (hy.ext hw4) (lx_ lf rfl)) rfl (by kernel_rfl) fun xr26 v24 r26 e25 hw5=>?_)))))))))))))
 obtain rfl:=r26
 refine wl_cmp rfl rfl rfl false (scmp_lt_f h0) (by decide) (mv 1 rfl (ne_ (cw_false rfl (sr (lo aggInt (hb15.ext (e20.trans e25)) [.bool sb,.slice Ab nb cb] rfl rfl rfl (cl (vs:= [.agg #[.bool sb,.slice Ab nb cb]]) hw5 (g_zint_Sign (hz.ext hw5) (lx_ lb rfl)) rfl (by kernel_rfl) fun xr29 v27 r29 e28 hw6=>?_))))))
 obtain rfl:=r29
 refine wl_cmp rfl rfl rfl false (scmp_eq_f hm0) (by decide) (mv 1 rfl (ne_ (cw_false rfl (cw_skip (eo_block_normal (eo_then (cw_seq ?_)))))))
 have L31:ln (1%z)≤8589934592:=Nat.le_trans (ln_emod hm0) Lz
 refine cw_draw mix 7 [4,5] [ZR w.heap.size (1),Is (.agg #[.bool sb,.slice Ab nb cb]),T2 (ZR w.heap.size (1%z)) (Is (.int .i64 0)),T2 (ZR w.heap.size (1%z)) (Is (.int .i64 0)),ZR w.heap.size (1%z),Is (.int .i64 0),PR v27.heap.size 27 [F0,S0]] [[],[],[0,1],[2],[3],[3],[]] [[],[],[0,1],[0,1,2],[0,1,2,3],[0,1,2,3],[],[0,1,2,3,4,6],[0,1,2,3,4,5,6,7]] rfl
  (obs_cons rfl rfl (hob rfl rfl ?_) (obs_cons rfl rfl (hob rfl rfl ?_) (obs_cons rfl rfl (hob rfl rfl ?_) (obs_cons rfl rfl (hob rfl rfl ?_) (obs_float rfl rfl (fob rfl ?_) (obs_float rfl rfl (fob rfl ?_) (obs_cons rfl rfl (hob rfl rfl ?_) obs_nil))))))) ?_
 · 
  intro v37 e38
  have hw7:=hw6.trans e38
  refine deps_nil (cl (vs:= [.int .i64 1]) hw7 (g_zint_Of hw7.size (by decide) (by decide)) rfl (by kernel_rfl) fun xr41 v39 r41 e40 hw8=>?_)
  obtain⟨s42,A42,n42,c42,rfl,z42⟩:=r41
  exact pi_done rfl e40 ⟨_,_,_,_,rfl,z42⟩
 · 
  exact fun _ e44=>deps_nil (lo aggInt (hb15.ext (e20.trans (e25.trans (e28.trans e44)))) [.bool sb,.slice Ab nb cb] rfl rfl rfl (pi_done rfl (Ext.refl _) rfl))
 · 
  intro v45 e46
  have hw7:=hw6.trans e46
  refine deps_cons rfl rfl fun x47 y48 h49 e50 f51=>?_
  obtain⟨s52,A52,n52,c52,rfl,z52⟩:=h49
  have z52:=z52.ext f51
  refine dk rfl rfl (deps_nil ?_)
  have L58:ln (1%z)≤8589934592:=Nat.le_trans (ln_emod hm0) Lz
  refine cl (vs:= [.agg #[.bool s52,.slice A52 n52 c52],.agg #[.bool sb,.slice Ab nb cb]]) hw7 (g_zint_Mod hw7.size z52.zi (z52.le (Nat.le_trans (show ln (1)≤1 by decide+kernel) (by decide))) (hz.ext hw7) (lx_ lb rfl) hm0) rfl (by kernel_rfl) fun xr61 v59 r61 e60 hw8=>?_
  obtain⟨_,_,rfl,⟨s63,A63,n63,c63,rfl,z63⟩,rfl⟩:=r61
  exact pi_done rfl e60 ⟨_,_,rfl,⟨_,_,_,_,rfl,z63⟩,rfl⟩
 · 
  intro v64 e65
  refine deps_cons rfl rfl fun x66 y67 h68 e69 f70=>?_
  obtain⟨_,_,rfl,⟨s72,A72,n72,c72,rfl,z72⟩,rfl⟩:=h68
  have z72:=z72.ext f70
  refine deps_nil (mv 1 rfl ?_)
  exact pi_done rfl (Ext.refl _) ⟨_,_,rfl,⟨_,_,_,_,rfl,z72⟩,rfl⟩
 · 
  intro v73 e74
  refine deps_cons rfl rfl fun x75 y76 h77 e78 f79=>?_
  obtain⟨_,_,rfl,⟨s81,A81,n81,c81,rfl,z81⟩,rfl⟩:=h77
  have z81:=z81.ext f79
  refine deps_nil ?_
  exact⟨.agg #[.bool s81,.slice A81 n81 c81],rfl,rfl,fun _=>by kernel_rfl,⟨_,_,_,_,rfl,z81⟩⟩
 · 
  intro v82 e83
  refine deps_cons rfl rfl fun x84 y85 h86 e87 f88=>?_
  obtain⟨_,_,rfl,⟨s90,A90,n90,c90,rfl,z90⟩,rfl⟩:=h86
  have z90:=z90.ext f88
  refine deps_nil ?_
  exact⟨.int .i64 0,rfl,rfl,fun _=>by kernel_rfl,rfl⟩
 · 
  intro v91 e92
  refine deps_nil (wl_alloc rfl (z:= .agg #[F0,S0]) (vs:= [F0,S0]) (fun _=>by kernel_rfl) rfl (by decide) fun g93 v94 nb=>?_)
  exact pi_done rfl nb.ext ⟨_,rfl,by rw [←nb.at_];exact e92.size,nb.bk⟩
 · 
  intro v95 e96
  have hw7:=hw6.trans e96
  refine deps_cons rfl rfl fun x97 y98 h99 e100 f101=>?_
  obtain⟨s102,A102,n102,c102,rfl,z102⟩:=h99
  have z102:=z102.ext f101
  refine dk rfl rfl (deps_cons rfl rfl fun x108 y109 h110 e111 f112=>?_)
  obtain⟨_,_,rfl,⟨s114,A114,n114,c114,rfl,z114⟩,rfl⟩:=h110
  have z114:=z114.ext f112
  refine deps_cons rfl rfl fun x115 y116 h117 e118 f119=>?_
  obtain⟨_,_,rfl,⟨s121,A121,n121,c121,rfl,z121⟩,rfl⟩:=h117
  have z121:=z121.ext f119
  refine deps_cons rfl rfl fun x122 y123 h124 e125 f126=>?_
  obtain⟨s127,A127,n127,c127,rfl,z127⟩:=h124
  have z127:=z127.ext f126
  refine dk rfl rfl (deps_cons rfl rfl fun x133 y134 h135 e136 f137=>?_)
  obtain⟨g138,rfl,ge140,hb139⟩:=h135
  have hb139:=hb139.ext f137
  have q141:g18<g138:=Nat.lt_of_lt_of_le (hb21.ext (e25.trans e28)).lt ge140
  have ge140:w.heap.size≤g138:=Nat.le_trans hw6.size ge140
  refine deps_nil (so aggInt hb139 [.bool s127,.slice A127 n127 c127] hw7 ge140 rfl rfl rfl rfl fun v142 hb144 u145 hw8=>(mv 1 rfl (wl_nil (eo_np (eo_then (sr (lo aggInt ((hb4.ext (e8.trans (e14.trans (e20.trans (e25.trans (e28.trans e96)))))).updN u145 (by omega)) [.bool sa,.slice Aa na ca] rfl rfl rfl (lo aggInt ((hb15.ext (e20.trans (e25.trans (e28.trans e96)))).updN u145 (by omega)) [.bool sb,.slice Ab nb cb] rfl rfl rfl ?_))))))))
  have L147:ln (x%z)≤8589934592:=Nat.le_trans (ln_emod hm0) Lz
  refine cl (vs:= [.agg #[.bool sa,.slice Aa na ca],.agg #[.bool sb,.slice Ab nb cb]]) hw8 (g_zint_Mod hw8.size (hx.ext hw8) (lx_ la rfl) (hz.ext hw8) (lx_ lb rfl) hm0) rfl (by kernel_rfl) fun xr150 v148 r150 e149 hw9=>?_
  obtain⟨_,_,rfl,⟨s152,A152,n152,c152,rfl,z152⟩,rfl⟩:=r150
  refine mv 1 rfl (pu (v:= .agg #[.bool s152,.slice A152 n152 c152]) rfl (by kernel_rfl) (pu (v:= .int .i64 0) rfl (by kernel_rfl) (alq [F0,S0] hw9 (hb144.ext e149).lt (fun _=>by kernel_rfl) rfl fun g153 v154 hb156 ge157 q158 e155 hw10=>(so aggInt hb156 [.bool s152,.slice A152 n152 c152] hw10 ge157 rfl rfl rfl rfl fun v159 hb161 u162 hw11=>(mv 1 rfl (ne_ (cw_seq (cw_seq ?_))))))))
  have hbl:blen (Int.natAbs y)≤64*8589934592:=blen_bd (show (wd (Int.natAbs y)).length≤8589934592 from Ly)
  refine cw_region (pf g6 1 rfl (by kernel_rfl) (wl_load rfl rfl (load_cell cellWords ((((hb9.ext (e14.trans (e20.trans (e25.trans (e28.trans e96))))).updN u145 (by omega)).ext (e149.trans e155)).updN u162 (by omega)) rfl) (by decide) (cl (vs:= [.slice Af nf cf]) hw11 (g_nat_BitLen (hy.ext hw11).wi (lx_ lf rfl)) rfl (by kernel_rfl) fun xr166 v164 r166 e165 hw12=>?_)))
  obtain rfl:=r166
  refine wl_ar rfl rfl rfl (((blen (Int.natAbs y):Nat):Int)-1) (ar_i64s rfl (by omega) (by omega)) (by decide) (mv 1 rfl (ne_ (cw_block ?_)))
  refine cw_loop (T:=World×Nat×Int×ZC)
   (fun⟨wr,k,ii,kp⟩=> [(3,.pointer (some ⟨g1,0,none⟩)),(4,.pointer (some ⟨g6,0,none⟩)),(5,.pointer (some ⟨g12,0,none⟩)),(6,.pointer (some ⟨g18,0,none⟩)),(7,.int .i64 0),(8,.pointer (some ⟨g138,0,none⟩)),(10,.pointer (some ⟨g153,0,none⟩)),(12,.int .i64 ii)])
   (fun⟨wr,k,ii,kp⟩=>wr)
   (fun⟨wr,k,ii,kp⟩=>(Ext w wr)∧(k≤blen (Int.natAbs y))∧(ii=(k:Int)-1)∧(Bk wr g1 27 [.bool sa,.slice Aa na ca])∧(Bk wr g6 27 [.bool sf,.slice Af nf cf])∧(Bk wr g12 27 [.bool sb,.slice Ab nb cb])∧(Bk wr g18 27 [F0,S0])∧(Bk wr g138 27 [.bool kp.s,.slice kp.A kp.n kp.c])∧(Bk wr g153 27 [.bool s152,.slice A152 n152 c152])∧(Zr wr w.heap.size kp.s kp.A kp.n kp.c (x^(Int.natAbs y/2^k)%z))∧(Zr wr w.heap.size s152 A152 n152 c152 (x%z)))
   (fun⟨wr,k,ii,kp⟩=>k)
   (⟨v164,blen (Int.natAbs y),_,⟨s127,A127,n127,c127⟩⟩:World×Nat×Int×ZC) ⟨hw12,Nat.le_refl _,rfl,(((((hb4.ext (e8.trans (e14.trans (e20.trans (e25.trans (e28.trans e96)))))).updN u145 (by omega)).ext (e149.trans e155)).updN u162 (by omega)).ext e165),(((((hb9.ext (e14.trans (e20.trans (e25.trans (e28.trans e96))))).updN u145 (by omega)).ext (e149.trans e155)).updN u162 (by omega)).ext e165),(((((hb15.ext (e20.trans (e25.trans (e28.trans e96)))).updN u145 (by omega)).ext (e149.trans e155)).updN u162 (by omega)).ext e165),(((((hb21.ext (e25.trans (e28.trans e96))).updN u145 (by omega)).ext (e149.trans e155)).updN u162 (by omega)).ext e165),(((hb144.ext (e149.trans e155)).updN u162 (by omega)).ext e165),(hb161.ext e165),(((((z127.updT hb139 u145).ext (e149.trans e155)).updT hb156 u162).ext e165)).cast (by rw [blen_div,Int.pow_zero]),(((z152.ext e155).updT hb156 u162).ext e165)⟩ rfl ⟨rfl,rfl,rfl,rfl,rfl,rfl,rfl,rfl,trivial⟩ ?_
  rintro⟨wr,k,ii,kp⟩ ⟨hw1,hk,hii,b_3,b_4,b_5,b_6,b_8,b_10,zp,zb⟩
  refine cw_re [(3,.pointer (some ⟨g1,0,none⟩)),(4,.pointer (some ⟨g6,0,none⟩)),(5,.pointer (some ⟨g12,0,none⟩)),(6,.pointer (some ⟨g18,0,none⟩)),(7,.int .i64 0),(8,.pointer (some ⟨g138,0,none⟩)),(10,.pointer (some ⟨g153,0,none⟩)),(12,.int .i64 ii)] wr rfl ⟨rfl,rfl,rfl,rfl,rfl,rfl,rfl,rfl,trivial⟩ (cw_seq (cw_seq ?_))
  by_cases hkp:0<k
  · 
   obtain⟨j,rfl⟩:∃j,k=j+1:=⟨k-1,by omega⟩
   obtain rfl:ii=(j:Int):=by omega
   refine cw_region (mv 1 rfl (wl_cmp rfl rfl rfl true (ge_t (by omega)) (by decide) (ne_ (cw_true rfl (cw_skip (eo_then (cw_seq (cw_block (cw_seq ?_)))))))))
   have L167:ln ((x^(Int.natAbs y/2^(j+1))%z)*(x^(Int.natAbs y/2^(j+1))%z))≤17179869184:=Nat.le_trans (ln_mul (Nat.le_trans (ln_emod hm0) Lz) (Nat.le_trans (ln_emod hm0) Lz)) (by decide)
   have L169:ln (((x^(Int.natAbs y/2^(j+1))%z)*(x^(Int.natAbs y/2^(j+1))%z))%z)≤8589934592:=Nat.le_trans (ln_emod hm0) Lz
   refine cw_draw mix 8 [6,7] [Is (.agg #[.bool kp.s,.slice kp.A kp.n kp.c]),Is (.agg #[.bool kp.s,.slice kp.A kp.n kp.c]),ZR w.heap.size ((x^(Int.natAbs y/2^(j+1))%z)*(x^(Int.natAbs y/2^(j+1))%z)),Is (.agg #[.bool sb,.slice Ab nb cb]),T2 (ZR w.heap.size (((x^(Int.natAbs y/2^(j+1))%z)*(x^(Int.natAbs y/2^(j+1))%z))%z)) (Is (.int .i64 0)),T2 (ZR w.heap.size (((x^(Int.natAbs y/2^(j+1))%z)*(x^(Int.natAbs y/2^(j+1))%z))%z)) (Is (.int .i64 0)),ZR w.heap.size (((x^(Int.natAbs y/2^(j+1))%z)*(x^(Int.natAbs y/2^(j+1))%z))%z),Is (.int .i64 0)] [[],[],[0,1],[],[2,3],[4],[5],[5]] [[],[],[0,1],[],[0,1,2,3],[0,1,2,3,4],[0,1,2,3,4,5],[0,1,2,3,4,5],[0,1,2,3,4,5,6]] rfl
    (obs_cons rfl rfl (hob rfl rfl ?_) (obs_cons rfl rfl (hob rfl rfl ?_) (obs_cons rfl rfl (hob rfl rfl ?_) (obs_cons rfl rfl (hob rfl rfl ?_) (obs_cons rfl rfl (hob rfl rfl ?_) (obs_cons rfl rfl (hob rfl rfl ?_) (obs_float rfl rfl (fob rfl ?_) (obs_float rfl rfl (fob rfl ?_) obs_nil)))))))) ?_
   · 
    exact fun _ e176=>deps_nil (lo aggInt (b_8.ext e176) [.bool kp.s,.slice kp.A kp.n kp.c] rfl rfl rfl (pi_done rfl (Ext.refl _) rfl))
   · 
    exact fun _ e178=>deps_nil (lo aggInt (b_8.ext e178) [.bool kp.s,.slice kp.A kp.n kp.c] rfl rfl rfl (pi_done rfl (Ext.refl _) rfl))
   · 
    intro v179 e180
    have hw2:=hw1.trans e180
    refine dk rfl rfl (dk rfl rfl (deps_nil ?_))
    have L191:ln ((x^(Int.natAbs y/2^(j+1))%z)*(x^(Int.natAbs y/2^(j+1))%z))≤17179869184:=Nat.le_trans (ln_mul (Nat.le_trans (ln_emod hm0) Lz) (Nat.le_trans (ln_emod hm0) Lz)) (by decide)
    refine cl (vs:= [.agg #[.bool kp.s,.slice kp.A kp.n kp.c],.agg #[.bool kp.s,.slice kp.A kp.n kp.c]]) hw2 (g_zint_Mul hw2.size (zp.ext e180).zi (zp.le (Nat.le_trans (Nat.le_trans (ln_emod hm0) Lz) (by decide))) (zp.ext e180).zi (zp.le (Nat.le_trans (Nat.le_trans (ln_emod hm0) Lz) (by decide)))) rfl (by kernel_rfl) fun xr194 v192 r194 e193 hw3=>?_
    obtain⟨s195,A195,n195,c195,rfl,z195⟩:=r194
    exact pi_done rfl e193 ⟨_,_,_,_,rfl,z195⟩
   · 
    exact fun _ e197=>deps_nil (lo aggInt (b_5.ext e197) [.bool sb,.slice Ab nb cb] rfl rfl rfl (pi_done rfl (Ext.refl _) rfl))
   · 
    intro v198 e199
    have hw2:=hw1.trans e199
    refine deps_cons rfl rfl fun x200 y201 h202 e203 f204=>?_
    obtain⟨s205,A205,n205,c205,rfl,z205⟩:=h202
    have z205:=z205.ext f204
    refine dk rfl rfl (deps_nil ?_)
    have L211:ln (((x^(Int.natAbs y/2^(j+1))%z)*(x^(Int.natAbs y/2^(j+1))%z))%z)≤8589934592:=Nat.le_trans (ln_emod hm0) Lz
    refine cl (vs:= [.agg #[.bool s205,.slice A205 n205 c205],.agg #[.bool sb,.slice Ab nb cb]]) hw2 (g_zint_Mod hw2.size z205.zi (z205.le (lx_ L167 rfl)) (hz.ext hw2) (lx_ lb rfl) hm0) rfl (by kernel_rfl) fun xr214 v212 r214 e213 hw3=>?_
    obtain⟨_,_,rfl,⟨s216,A216,n216,c216,rfl,z216⟩,rfl⟩:=r214
    exact pi_done rfl e213 ⟨_,_,rfl,⟨_,_,_,_,rfl,z216⟩,rfl⟩
   · 
    intro v217 e218
    refine deps_cons rfl rfl fun x219 y220 h221 e222 f223=>?_
    obtain⟨_,_,rfl,⟨s225,A225,n225,c225,rfl,z225⟩,rfl⟩:=h221
    have z225:=z225.ext f223
    refine deps_nil (mv 1 rfl ?_)
    exact pi_done rfl (Ext.refl _) ⟨_,_,rfl,⟨_,_,_,_,rfl,z225⟩,rfl⟩
   · 
    intro v226 e227
    refine deps_cons rfl rfl fun x228 y229 h230 e231 f232=>?_
    obtain⟨_,_,rfl,⟨s234,A234,n234,c234,rfl,z234⟩,rfl⟩:=h230
    have z234:=z234.ext f232
    refine deps_nil ?_
    exact⟨.agg #[.bool s234,.slice A234 n234 c234],rfl,rfl,fun _=>by kernel_rfl,⟨_,_,_,_,rfl,z234⟩⟩
   · 
    intro v235 e236
    refine deps_cons rfl rfl fun x237 y238 h239 e240 f241=>?_
    obtain⟨_,_,rfl,⟨s243,A243,n243,c243,rfl,z243⟩,rfl⟩:=h239
    have z243:=z243.ext f241
    refine deps_nil ?_
    exact⟨.int .i64 0,rfl,rfl,fun _=>by kernel_rfl,rfl⟩
   · 
    intro v244 e245
    have hw2:=hw1.trans e245
    refine dk rfl rfl (dk rfl rfl (deps_cons rfl rfl fun x256 y257 h258 e259 f260=>?_))
    obtain⟨s261,A261,n261,c261,rfl,z261⟩:=h258
    have z261:=z261.ext f260
    refine dk rfl rfl (deps_cons rfl rfl fun x267 y268 h269 e270 f271=>?_)
    obtain⟨_,_,rfl,⟨s273,A273,n273,c273,rfl,z273⟩,rfl⟩:=h269
    have z273:=z273.ext f271
    refine deps_cons rfl rfl fun x274 y275 h276 e277 f278=>?_
    obtain⟨_,_,rfl,⟨s280,A280,n280,c280,rfl,z280⟩,rfl⟩:=h276
    have z280:=z280.ext f278
    refine deps_cons rfl rfl fun x281 y282 h283 e284 f285=>?_
    obtain⟨s286,A286,n286,c286,rfl,z286⟩:=h283
    have z286:=z286.ext f285
    refine dk rfl rfl (deps_nil ?_)
    have hb293:=(b_8.ext e245)
    refine so aggInt hb293 [.bool s286,.slice A286 n286 c286] hw2 ge140 rfl rfl rfl rfl fun v292 hb294 u295 hw3=>(wl_nil (eo_np (eo_then (cw_seq ?_))))
    by_cases hbit:Int.natAbs y/2^j%2=1
    · 
     refine cw_region (pf g6 1 rfl (by kernel_rfl) (wl_load rfl rfl (load_cell cellWords ((b_4.ext e245).updN u295 (by omega)) rfl) (by decide) (mv 1 rfl (cl (vs:= [.slice Af nf cf,.int .i64 (j:Int)]) hw3 (g_nat_BitI (hy.ext hw3).wi (by omega)) rfl (by kernel_rfl) fun xr299 v297 r299 e298 hw4=>?_))))
     obtain rfl:=r299
     refine wl_cmp rfl rfl rfl true (eq_t (by omega)) (by decide) (ne_ (cw_true rfl ?_))
     have L300:ln ((((x^(Int.natAbs y/2^(j+1))%z)*(x^(Int.natAbs y/2^(j+1))%z))%z)*(x%z))≤17179869184:=Nat.le_trans (ln_mul L169 L147) (by decide)
     have L302:ln (((((x^(Int.natAbs y/2^(j+1))%z)*(x^(Int.natAbs y/2^(j+1))%z))%z)*(x%z))%z)≤8589934592:=Nat.le_trans (ln_emod hm0) Lz
     refine cw_draw mix 8 [6,7] [Is (.agg #[.bool s286,.slice A286 n286 c286]),Is (.agg #[.bool s152,.slice A152 n152 c152]),ZR w.heap.size ((((x^(Int.natAbs y/2^(j+1))%z)*(x^(Int.natAbs y/2^(j+1))%z))%z)*(x%z)),Is (.agg #[.bool sb,.slice Ab nb cb]),T2 (ZR w.heap.size (((((x^(Int.natAbs y/2^(j+1))%z)*(x^(Int.natAbs y/2^(j+1))%z))%z)*(x%z))%z)) (Is (.int .i64 0)),T2 (ZR w.heap.size (((((x^(Int.natAbs y/2^(j+1))%z)*(x^(Int.natAbs y/2^(j+1))%z))%z)*(x%z))%z)) (Is (.int .i64 0)),ZR w.heap.size (((((x^(Int.natAbs y/2^(j+1))%z)*(x^(Int.natAbs y/2^(j+1))%z))%z)*(x%z))%z),Is (.int .i64 0)] [[],[],[0,1],[],[2,3],[4],[5],[5]] [[],[],[0,1],[],[0,1,2,3],[0,1,2,3,4],[0,1,2,3,4,5],[0,1,2,3,4,5],[0,1,2,3,4,5,6]] rfl
      (obs_cons rfl rfl (hob rfl rfl ?_) (obs_cons rfl rfl (hob rfl rfl ?_) (obs_cons rfl rfl (hob rfl rfl ?_) (obs_cons rfl rfl (hob rfl rfl ?_) (obs_cons rfl rfl (hob rfl rfl ?_) (obs_cons rfl rfl (hob rfl rfl ?_) (obs_float rfl rfl (fob rfl ?_) (obs_float rfl rfl (fob rfl ?_) obs_nil)))))))) ?_
     · 
      exact fun _ e309=>deps_nil (lo aggInt (hb294.ext (e298.trans e309)) [.bool s286,.slice A286 n286 c286] rfl rfl rfl (pi_done rfl (Ext.refl _) rfl))
     · 
      exact fun _ e311=>deps_nil (lo aggInt (((b_10.ext e245).updN u295 (by omega)).ext (e298.trans e311)) [.bool s152,.slice A152 n152 c152] rfl rfl rfl (pi_done rfl (Ext.refl _) rfl))
     · 
      intro v312 e313
      have hw5:=hw4.trans e313
      refine dk rfl rfl (dk rfl rfl (deps_nil ?_))
      have L324:ln ((((x^(Int.natAbs y/2^(j+1))%z)*(x^(Int.natAbs y/2^(j+1))%z))%z)*(x%z))≤17179869184:=Nat.le_trans (ln_mul L169 L147) (by decide)
      refine cl (vs:= [.agg #[.bool s286,.slice A286 n286 c286],.agg #[.bool s152,.slice A152 n152 c152]]) hw5 (g_zint_Mul hw5.size ((z286.updT hb293 u295).ext (e298.trans e313)).zi (z286.le (lx_ L169 rfl)) (((zb.ext e245).updT hb293 u295).ext (e298.trans e313)).zi (zb.le (lx_ L147 rfl))) rfl (by kernel_rfl) fun xr327 v325 r327 e326 hw6=>?_
      obtain⟨s328,A328,n328,c328,rfl,z328⟩:=r327
      exact pi_done rfl e326 ⟨_,_,_,_,rfl,z328⟩
     · 
      exact fun _ e330=>deps_nil (lo aggInt (((b_5.ext e245).updN u295 (by omega)).ext (e298.trans e330)) [.bool sb,.slice Ab nb cb] rfl rfl rfl (pi_done rfl (Ext.refl _) rfl))
     · 
      intro v331 e332
      have hw5:=hw4.trans e332
      refine deps_cons rfl rfl fun x333 y334 h335 e336 f337=>?_
      obtain⟨s338,A338,n338,c338,rfl,z338⟩:=h335
      have z338:=z338.ext f337
      refine dk rfl rfl (deps_nil ?_)
      have L344:ln (((((x^(Int.natAbs y/2^(j+1))%z)*(x^(Int.natAbs y/2^(j+1))%z))%z)*(x%z))%z)≤8589934592:=Nat.le_trans (ln_emod hm0) Lz
      refine cl (vs:= [.agg #[.bool s338,.slice A338 n338 c338],.agg #[.bool sb,.slice Ab nb cb]]) hw5 (g_zint_Mod hw5.size z338.zi (z338.le (lx_ L300 rfl)) (hz.ext hw5) (lx_ lb rfl) hm0) rfl (by kernel_rfl) fun xr347 v345 r347 e346 hw6=>?_
      obtain⟨_,_,rfl,⟨s349,A349,n349,c349,rfl,z349⟩,rfl⟩:=r347
      exact pi_done rfl e346 ⟨_,_,rfl,⟨_,_,_,_,rfl,z349⟩,rfl⟩
     · 
      intro v350 e351
      refine deps_cons rfl rfl fun x352 y353 h354 e355 f356=>?_
      obtain⟨_,_,rfl,⟨s358,A358,n358,c358,rfl,z358⟩,rfl⟩:=h354
      have z358:=z358.ext f356
      refine deps_nil (mv 1 rfl ?_)
      exact pi_done rfl (Ext.refl _) ⟨_,_,rfl,⟨_,_,_,_,rfl,z358⟩,rfl⟩
     · 
      intro v359 e360
      refine deps_cons rfl rfl fun x361 y362 h363 e364 f365=>?_
      obtain⟨_,_,rfl,⟨s367,A367,n367,c367,rfl,z367⟩,rfl⟩:=h363
      have z367:=z367.ext f365
      refine deps_nil ?_
      exact⟨.agg #[.bool s367,.slice A367 n367 c367],rfl,rfl,fun _=>by kernel_rfl,⟨_,_,_,_,rfl,z367⟩⟩
     · 
      intro v368 e369
      refine deps_cons rfl rfl fun x370 y371 h372 e373 f374=>?_
      obtain⟨_,_,rfl,⟨s376,A376,n376,c376,rfl,z376⟩,rfl⟩:=h372
      have z376:=z376.ext f374
      refine deps_nil ?_
      exact⟨.int .i64 0,rfl,rfl,fun _=>by kernel_rfl,rfl⟩
     · 
      intro v377 e378
      have hw5:=hw4.trans e378
      refine dk rfl rfl (dk rfl rfl (deps_cons rfl rfl fun x389 y390 h391 e392 f393=>?_))
      obtain⟨s394,A394,n394,c394,rfl,z394⟩:=h391
      have z394:=z394.ext f393
      refine dk rfl rfl (deps_cons rfl rfl fun x400 y401 h402 e403 f404=>?_)
      obtain⟨_,_,rfl,⟨s406,A406,n406,c406,rfl,z406⟩,rfl⟩:=h402
      have z406:=z406.ext f404
      refine deps_cons rfl rfl fun x407 y408 h409 e410 f411=>?_
      obtain⟨_,_,rfl,⟨s413,A413,n413,c413,rfl,z413⟩,rfl⟩:=h409
      have z413:=z413.ext f411
      refine deps_cons rfl rfl fun x414 y415 h416 e417 f418=>?_
      obtain⟨s419,A419,n419,c419,rfl,z419⟩:=h416
      have z419:=z419.ext f418
      refine dk rfl rfl (deps_nil ?_)
      have hb426:=(hb294.ext (e298.trans e378))
      refine so aggInt hb426 [.bool s419,.slice A419 n419 c419] hw5 ge140 rfl rfl rfl rfl fun v425 hb427 u428 hw6=>(wl_nil (eo_np (eo_block_normal (eo_then (cw_region (mv 1 rfl (wl_ar rfl rfl rfl ((j:Int)-1) (ar_i64s rfl (by omega) (by omega)) (by decide) (mv 1 rfl (wl_nil (eo_round (⟨v425,j,(j:Int)-1,⟨s419,A419,n419,c419⟩⟩:World×Nat×Int×ZC) ⟨hw6,(by omega),rfl,((((b_3.ext e245).updN u295 (by omega)).ext (e298.trans e378)).updN u428 (by omega)),((((b_4.ext e245).updN u295 (by omega)).ext (e298.trans e378)).updN u428 (by omega)),((((b_5.ext e245).updN u295 (by omega)).ext (e298.trans e378)).updN u428 (by omega)),((((b_6.ext e245).updN u295 (by omega)).ext (e298.trans e378)).updN u428 (by omega)),hb427,((((b_10.ext e245).updN u295 (by omega)).ext (e298.trans e378)).updN u428 (by omega)),((z419.updT hb426 u428)).cast (pow_odd hbit),((((zb.ext e245).updT hb293 u295).ext (e298.trans e378)).updT hb426 u428)⟩ (show j<j+1 by omega) rfl ⟨rfl,rfl,rfl,rfl,rfl,rfl,rfl,rfl,trivial⟩))))))))))
    · 
     refine cw_region (pf g6 1 rfl (by kernel_rfl) (wl_load rfl rfl (load_cell cellWords ((b_4.ext e245).updN u295 (by omega)) rfl) (by decide) (mv 1 rfl (cl (vs:= [.slice Af nf cf,.int .i64 (j:Int)]) hw3 (g_nat_BitI (hy.ext hw3).wi (by omega)) rfl (by kernel_rfl) fun xr432 v430 r432 e431 hw4=>?_))))
     obtain rfl:=r432
     refine wl_cmp rfl rfl rfl false (eq_f (by omega)) (by decide) (ne_ (cw_false rfl (cw_skip (eo_block_normal (eo_then (cw_region (mv 1 rfl (wl_ar rfl rfl rfl ((j:Int)-1) (ar_i64s rfl (by omega) (by omega)) (by decide) (mv 1 rfl (wl_nil (eo_round (⟨v430,j,(j:Int)-1,⟨s286,A286,n286,c286⟩⟩:World×Nat×Int×ZC) ⟨hw4,(by omega),rfl,(((b_3.ext e245).updN u295 (by omega)).ext e431),(((b_4.ext e245).updN u295 (by omega)).ext e431),(((b_5.ext e245).updN u295 (by omega)).ext e431),(((b_6.ext e245).updN u295 (by omega)).ext e431),(hb294.ext e431),(((b_10.ext e245).updN u295 (by omega)).ext e431),(((z286.updT hb293 u295).ext e431)).cast (pow_even hbit),(((zb.ext e245).updT hb293 u295).ext e431)⟩ (show j<j+1 by omega) rfl ⟨rfl,rfl,rfl,rfl,rfl,rfl,rfl,rfl,trivial⟩)))))))))))
  · 
   obtain rfl:k=0:=by omega
   refine cw_region (mv 1 rfl (wl_cmp rfl rfl rfl false (ge_f (by omega)) (by decide) (ne_ (cw_false rfl (cw_exit (eo_thenX (eo_loopX (eo_block_here (eo_then (sr (lo aggInt b_8 [.bool kp.s,.slice kp.A kp.n kp.c] rfl rfl rfl ?_)))))))))))
   have hb434:=b_6
   refine so aggInt hb434 [.bool kp.s,.slice kp.A kp.n kp.c] hw1 ge22 rfl rfl rfl rfl fun v433 hb435 u436 hw2=>(mv 1 rfl (ne_ (cw_ret (eo_ret [.agg #[.bool kp.s,.slice kp.A kp.n kp.c],I0] rfl ⟨⟨_,rfl,load_agg aggInt hb435 [.bool kp.s,.slice kp.A kp.n kp.c] rfl (bq rfl) rfl⟩,rfl,trivial⟩ ?_))))
   exact⟨_,rfl,⟨_,_,rfl,⟨_,_,_,_,rfl,((zp.updT hb434 u436)).cast (by rw [Nat.pow_zero,Nat.div_one])⟩,rfl⟩,hw2⟩
theorem g_bezout_PowMod_ok {w:World}{sa:Bool}{Aa:Option Addr}{na ca:Nat}{x:Int}{sf:Bool}{Af:Option Addr}{nf cf:Nat}{y:Int}{sb:Bool}{Ab:Option Addr}{nb cb:Nat}{z:Int}{b:Nat}(hb:b≤w.heap.size) (hx:Zi w sa Aa na ca x) (la:na≤8589934592) (hy:Zi w sf Af nf cf y) (lf:nf≤8589934592) (hz:Zi w sb Ab nb cb z) (lb:nb≤8589934592) (h0:0≤y) (hm0:z≠0):
  Calls Tryz.prog 49 #[.agg #[.bool sa,.slice Aa na ca],.agg #[.bool sf,.slice Af nf cf],.agg #[.bool sb,.slice Ab nb cb]] w (Gv w (T2 (ZR b (x^Int.natAbs y%z)) (Is (.int .i64 0)))):=(g_bezout_PowMod_okI hx la hy lf hz lb h0 hm0).mono (Gv.imp (T2.imp (ZR.imp hb) Is.imp))
theorem pow_first {x z:Int}:x%z=x^(2^(64*0))%z:=by rw [Nat.mul_zero,Nat.pow_zero,Int.pow_succ,Int.pow_zero,Int.one_mul]
theorem pow_none {x z:Int}{e:Nat}:1%z=x^(e%2^(64*0))%z:=by rw [Nat.mul_zero,Nat.pow_zero,Nat.mod_one,Int.pow_zero]
theorem pow_lo_t {x z:Int}{e t:Nat}(h:e/2^t%2=1):((x^(e%2^t)%z)*(x^(2^t)%z))%z=x^(e%2^(t+1))%z:=by
 rw [←Int.mul_emod,←Int.pow_add,Nat.mod_pow_succ,h,Nat.mul_one]
theorem pow_lo_f {x z:Int}{e t:Nat}(h:¬e/2^t%2=1):x^(e%2^t)%z=x^(e%2^(t+1))%z:=by
 rw [Nat.mod_pow_succ,show e/2^t%2=0 by omega,Nat.mul_zero,Nat.add_zero]
theorem pow_sq {x z:Int}{t:Nat}:((x^(2^t)%z)*(x^(2^t)%z))%z=x^(2^(t+1))%z:=by
 rw [←Int.mul_emod,←Int.pow_add,Nat.pow_succ,Nat.mul_two]
theorem word_bit {ds:List Nat}{k j:Nat}(hw:Wf ds) (hk:k<ds.length) (hj:j<64):nv ds/2^(64*k+j)%2=ds.getD k 0/2^j%2:=by
 have h1:(64*k+j)/64=k:=by omega
 have h2:(64*k+j)%64=j:=by omega
 have h3:=bit_low hw (i:=64*k+j) rfl (by omega)
 rw [h1,h2] at h3
 exact h3
theorem nv_lt_t {ds:List Nat}{k j:Nat}(hw:Wf ds) (hk:ds.length=k+1) (h0:ds.getD k 0/2^j=0):nv ds<2^(64*k+j):=by
 have h1:=nv_take_snoc ds k (by omega)
 rw [List.take_of_length_le (by omega)] at h1
 have h2:nv (ds.take k)<WB^k:=nv_take_lt hw _
 have h3:ds.getD k 0<2^j:=by
  rcases Nat.div_eq_zero_iff.1 h0 with h | h
  ·have:=Nat.pow_pos (n:=j) (show 0<2 by decide);omega
  ·exact h
 rw [Nat.pow_add,Nat.pow_mul,←WB_pow,h1]
 have h4:WB^k*(ds.getD k 0+1)≤WB^k*2^j:=Nat.mul_le_mul_left _ h3
 rw [Nat.mul_add,Nat.mul_one] at h4
 omega
theorem last_mod {ds:List Nat}{x z:Int}{k j:Nat}(hw:Wf ds) (hk:ds.length=k+1) (hj:j≤64) (h0:ds.getD k 0/2^j=0):x^(nv ds%2^(64*k+j))%z=x^(nv ds%2^(64*(k+1)))%z:=by
 have h1:=nv_lt_t hw hk h0
 have h2:2^(64*k+j)≤2^(64*(k+1)):=Nat.pow_le_pow_right (by decide) (by omega)
 rw [Nat.mod_eq_of_lt h1,Nat.mod_eq_of_lt (Nat.lt_of_lt_of_le h1 h2)]
theorem all_mod {ds:List Nat}{K:Nat}(hw:Wf ds) (hl:ds.length=K):nv ds%2^(64*K)=nv ds:=by
 have h1:=nv_lt hw
 rw [hl,WB_pow,←Nat.pow_mul] at h1
 exact Nat.mod_eq_of_lt h1
set_option maxHeartbeats 4000000 in
theorem g_ref6_PowMod_neg {w:World}{sa:Bool}{Aa:Option Addr}{na ca:Nat}{x:Int}{sf:Bool}{Af:Option Addr}{nf cf:Nat}{y:Int}{sb:Bool}{Ab:Option Addr}{nb cb:Nat}{z:Int}{b:Nat}(hb:b≤w.heap.size) (hx:Zi w sa Aa na ca x) (la:na≤1073741824) (hy:Zi w sf Af nf cf y) (lf:nf≤1073741824) (hz:Zi w sb Ab nb cb z) (lb:nb≤1073741824) (h0:y<0):
    Calls Tryz.prog 41 #[.agg #[.bool sa,.slice Aa na ca],.agg #[.bool sf,.slice Af nf cf],.agg #[.bool sb,.slice Ab nb cb]] w (Gv w (T2 (ZR b (0)) (Is (.int .i64 3)))):=by
 refine Calls.mono (R:=Gv w (T2 (ZR w.heap.size (0)) (Is (.int .i64 3)))) ?_ (Gv.imp (T2.imp (ZR.imp hb) Is.imp))
 have Lx:ln x≤1073741824:=Nat.le_trans hx.ln la
 have Ly:ln y≤1073741824:=Nat.le_trans hy.ln lf
 have Lz:ln z≤1073741824:=Nat.le_trans hz.ln lb
 refine sx_enter Tryz.func41 rfl (n:=86) rfl (bq rfl) (args:= [.agg #[.bool sa,.slice Aa na ca],.agg #[.bool sf,.slice Af nf cf],.agg #[.bool sb,.slice Ab nb cb]]) (cw_keep [(0,.agg #[.bool sa,.slice Aa na ca]),(1,.agg #[.bool sf,.slice Af nf cf]),(2,.agg #[.bool sb,.slice Ab nb cb])] ⟨rfl,rfl,rfl,trivial⟩ (sr (bx [.bool sa,.slice Aa na ca] (Ext.refl w) rfl rfl rfl fun g1 v2 hb4 ge5 e3 hw1=>(bxq [.bool sf,.slice Af nf cf] hw1 hb4.lt rfl rfl rfl fun g6 v7 hb9 ge10 q11 e8 hw2=>(bxq [.bool sb,.slice Ab nb cb] hw2 hb9.lt rfl rfl rfl fun g12 v13 hb15 ge16 q17 e14 hw3=>(alq [F0,S0] hw3 hb15.lt (fun _=>by kernel_rfl) rfl fun g18 v19 hb21 ge22 q23 e20 hw4=>(mv 1 rfl (ne_ (cw_seq (sr (lo aggInt (hb9.ext (e14.trans e20)) [.bool sf,.slice Af nf cf] rfl rfl rfl (cl (vs:= [.agg #[.bool sf,.slice Af nf cf]]) hw4 (g_ref5_Sign (hy.ext hw4) (lx_ lf rfl)) rfl (by kernel_rfl) fun xr26 v24 r26 e25 hw5=>?_))))))))))))
 obtain rfl:=r26
 refine wl_cmp rfl rfl rfl true (scmp_lt_t h0) (by decide) (ne_ (cw_true rfl (sr (pu (v:= .agg #[F0,S0]) rfl (by kernel_rfl) ?_))))
 have hb28:=(hb21.ext e25)
 refine so aggInt hb28 [F0,S0] hw5 ge22 rfl rfl rfl rfl fun v27 hb29 u30 hw6=>(mv 1 rfl (ne_ (cw_ret (eo_thenR (eo_ret [.agg #[F0,S0],.int .i64 3] rfl ⟨⟨_,rfl,load_agg aggInt hb29 [F0,S0] rfl (bq rfl) rfl⟩,rfl,trivial⟩ ?_)))))
 exact⟨_,rfl,⟨_,_,rfl,⟨_,_,_,_,rfl,((Zr.zero (w:=v24) (base:=w.heap.size)).updT hb28 u30)⟩,rfl⟩,hw6⟩
set_option maxHeartbeats 4000000 in
theorem g_ref6_PowMod_zero {w:World}{sa:Bool}{Aa:Option Addr}{na ca:Nat}{x:Int}{sf:Bool}{Af:Option Addr}{nf cf:Nat}{y:Int}{sb:Bool}{Ab:Option Addr}{nb cb:Nat}{z:Int}{b:Nat}(hb:b≤w.heap.size) (hx:Zi w sa Aa na ca x) (la:na≤1073741824) (hy:Zi w sf Af nf cf y) (lf:nf≤1073741824) (hz:Zi w sb Ab nb cb z) (lb:nb≤1073741824) (h0:0≤y) (hm0:z=0):
    Calls Tryz.prog 41 #[.agg #[.bool sa,.slice Aa na ca],.agg #[.bool sf,.slice Af nf cf],.agg #[.bool sb,.slice Ab nb cb]] w (Gv w (T2 (ZR b (0)) (Is (.int .i64 4)))):=by
 refine Calls.mono (R:=Gv w (T2 (ZR w.heap.size (0)) (Is (.int .i64 4)))) ?_ (Gv.imp (T2.imp (ZR.imp hb) Is.imp))
 have Lx:ln x≤1073741824:=Nat.le_trans hx.ln la
 have Ly:ln y≤1073741824:=Nat.le_trans hy.ln lf
 have Lz:ln z≤1073741824:=Nat.le_trans hz.ln lb
 refine sx_enter Tryz.func41 rfl (n:=86) rfl (bq rfl) (args:= [.agg #[.bool sa,.slice Aa na ca],.agg #[.bool sf,.slice Af nf cf],.agg #[.bool sb,.slice Ab nb cb]]) (cw_keep [(0,.agg #[.bool sa,.slice Aa na ca]),(1,.agg #[.bool sf,.slice Af nf cf]),(2,.agg #[.bool sb,.slice Ab nb cb])] ⟨rfl,rfl,rfl,trivial⟩ (sr (bx [.bool sa,.slice Aa na ca] (Ext.refl w) rfl rfl rfl fun g1 v2 hb4 ge5 e3 hw1=>(bxq [.bool sf,.slice Af nf cf] hw1 hb4.lt rfl rfl rfl fun g6 v7 hb9 ge10 q11 e8 hw2=>(bxq [.bool sb,.slice Ab nb cb] hw2 hb9.lt rfl rfl rfl fun g12 v13 hb15 ge16 q17 e14 hw3=>(alq [F0,S0] hw3 hb15.lt (fun _=>by kernel_rfl) rfl fun g18 v19 hb21 ge22 q23 e20 hw4=>(mv 1 rfl (ne_ (cw_seq (sr (lo aggInt (hb9.ext (e14.trans e20)) [.bool sf,.slice Af nf cf] rfl rfl rfl (cl (vs:= [.agg #[.bool sf,.slice Af nf cf]]) hw4 (g_ref5_Sign (hy.ext hw4) (lx_ lf rfl)) rfl (by kernel_rfl) fun xr26 v24 r26 e25 hw5=>?_))))))))))))
 obtain rfl:=r26
 refine wl_cmp rfl rfl rfl false (scmp_lt_f h0) (by decide) (ne_ (cw_false rfl (cw_skip (eo_then (cw_seq (sr (lo aggInt (hb15.ext (e20.trans e25)) [.bool sb,.slice Ab nb cb] rfl rfl rfl (cl (vs:= [.agg #[.bool sb,.slice Ab nb cb]]) hw5 (g_ref5_Sign (hz.ext hw5) (lx_ lb rfl)) rfl (by kernel_rfl) fun xr29 v27 r29 e28 hw6=>?_))))))))
 obtain rfl:=r29
 refine wl_cmp rfl rfl rfl true (scmp_eq_t hm0) (by decide) (ne_ (cw_true rfl (sr (pu (v:= .agg #[F0,S0]) rfl (by kernel_rfl) ?_))))
 have hb31:=(hb21.ext (e25.trans e28))
 refine so aggInt hb31 [F0,S0] hw6 ge22 rfl rfl rfl rfl fun v30 hb32 u33 hw7=>(mv 1 rfl (ne_ (cw_ret (eo_thenR (eo_ret [.agg #[F0,S0],.int .i64 4] rfl ⟨⟨_,rfl,load_agg aggInt hb32 [F0,S0] rfl (bq rfl) rfl⟩,rfl,trivial⟩ ?_)))))
 exact⟨_,rfl,⟨_,_,rfl,⟨_,_,_,_,rfl,((Zr.zero (w:=v27) (base:=w.heap.size)).updT hb31 u33)⟩,rfl⟩,hw7⟩
set_option maxHeartbeats 4000000 in
theorem g_ref6_PowMod_ok {w:World}{sa:Bool}{Aa:Option Addr}{na ca:Nat}{x:Int}{sf:Bool}{Af:Option Addr}{nf cf:Nat}{y:Int}{sb:Bool}{Ab:Option Addr}{nb cb:Nat}{z:Int}{b:Nat}(hb:b≤w.heap.size) (hx:Zi w sa Aa na ca x) (la:na≤1073741824) (hy:Zi w sf Af nf cf y) (lf:nf≤1073741824) (hz:Zi w sb Ab nb cb z) (lb:nb≤1073741824) (h0:0≤y) (hm0:z≠0):
    Calls Tryz.prog 41 #[.agg #[.bool sa,.slice Aa na ca],.agg #[.bool sf,.slice Af nf cf],.agg #[.bool sb,.slice Ab nb cb]] w (Gv w (T2 (ZR b (x^Int.natAbs y%z)) (Is (.int .i64 0)))):=by
 refine Calls.mono (R:=Gv w (T2 (ZR w.heap.size (x^Int.natAbs y%z)) (Is (.int .i64 0)))) ?_ (Gv.imp (T2.imp (ZR.imp hb) Is.imp))
 have Lx:ln x≤1073741824:=Nat.le_trans hx.ln la
 have Ly:ln y≤1073741824:=Nat.le_trans hy.ln lf
 have Lz:ln z≤1073741824:=Nat.le_trans hz.ln lb
 obtain⟨ys,hyr,hyv⟩:∃ys,Rd w Af nf cf ys∧sg sf (nv ys)=y:=id hy
 have hyn:nv ys=Int.natAbs y:=by rw [←hyv,sg_abs]
 refine sx_enter Tryz.func41 rfl (n:=86) rfl (bq rfl) (args:= [.agg #[.bool sa,.slice Aa na ca],.agg #[.bool sf,.slice Af nf cf],.agg #[.bool sb,.slice Ab nb cb]]) (cw_keep [(0,.agg #[.bool sa,.slice Aa na ca]),(1,.agg #[.bool sf,.slice Af nf cf]),(2,.agg #[.bool sb,.slice Ab nb cb])] ⟨rfl,rfl,rfl,trivial⟩ (sr (bx [.bool sa,.slice Aa na ca] (Ext.refl w) rfl rfl rfl fun g1 v2 hb4 ge5 e3 hw1=>(bxq [.bool sf,.slice Af nf cf] hw1 hb4.lt rfl rfl rfl fun g6 v7 hb9 ge10 q11 e8 hw2=>(bxq [.bool sb,.slice Ab nb cb] hw2 hb9.lt rfl rfl rfl fun g12 v13 hb15 ge16 q17 e14 hw3=>(alq [F0,S0] hw3 hb15.lt (fun _=>by kernel_rfl) rfl fun g18 v19 hb21 ge22 q23 e20 hw4=>(mv 1 rfl (ne_ (cw_seq (sr (lo aggInt (hb9.ext (e14.trans e20)) [.bool sf,.slice Af nf cf] rfl rfl rfl (cl (vs:= [.agg #[.bool sf,.slice Af nf cf]]) hw4 (g_ref5_Sign (hy.ext hw4) (lx_ lf rfl)) rfl (by kernel_rfl) fun xr26 v24 r26 e25 hw5=>?_))))))))))))
 obtain rfl:=r26
 refine wl_cmp rfl rfl rfl false (scmp_lt_f h0) (by decide) (ne_ (cw_false rfl (cw_skip (eo_then (cw_seq (sr (lo aggInt (hb15.ext (e20.trans e25)) [.bool sb,.slice Ab nb cb] rfl rfl rfl (cl (vs:= [.agg #[.bool sb,.slice Ab nb cb]]) hw5 (g_ref5_Sign (hz.ext hw5) (lx_ lb rfl)) rfl (by kernel_rfl) fun xr29 v27 r29 e28 hw6=>?_))))))))
 obtain rfl:=r29
 refine wl_cmp rfl rfl rfl false (scmp_eq_f hm0) (by decide) (ne_ (cw_false rfl (cw_skip (eo_then (cw_seq ?_)))))
 have L31:ln (1%z)≤1073741824:=Nat.le_trans (ln_emod hm0) Lz
 refine cw_draw mix 7 [4,5] [ZR w.heap.size (1),Is (.agg #[.bool sb,.slice Ab nb cb]),T2 (ZR w.heap.size (1%z)) (Is (.int .i64 0)),T2 (ZR w.heap.size (1%z)) (Is (.int .i64 0)),ZR w.heap.size (1%z),Is (.int .i64 0),PR v27.heap.size 27 [F0,S0]] [[],[],[0,1],[2],[3],[3],[]] [[],[],[0,1],[0,1,2],[0,1,2,3],[0,1,2,3],[],[0,1,2,3,4,6],[0,1,2,3,4,5,6,7]] rfl
  (obs_cons rfl rfl (hob rfl rfl ?_) (obs_cons rfl rfl (hob rfl rfl ?_) (obs_cons rfl rfl (hob rfl rfl ?_) (obs_cons rfl rfl (hob rfl rfl ?_) (obs_float rfl rfl (fob rfl ?_) (obs_float rfl rfl (fob rfl ?_) (obs_cons rfl rfl (hob rfl rfl ?_) obs_nil))))))) ?_
 · 
  intro v37 e38
  have hw7:=hw6.trans e38
  refine deps_nil (cl (vs:= []) hw7 (g_ref6_one (w:=v37) hw7.size) rfl (by kernel_rfl) fun xr41 v39 r41 e40 hw8=>?_)
  obtain⟨s42,A42,n42,c42,rfl,z42⟩:=r41
  exact pi_done rfl e40 ⟨_,_,_,_,rfl,z42⟩
 · 
  exact fun _ e44=>deps_nil (lo aggInt (hb15.ext (e20.trans (e25.trans (e28.trans e44)))) [.bool sb,.slice Ab nb cb] rfl rfl rfl (pi_done rfl (Ext.refl _) rfl))
 · 
  intro v45 e46
  have hw7:=hw6.trans e46
  refine deps_cons rfl rfl fun x47 y48 h49 e50 f51=>?_
  obtain⟨s52,A52,n52,c52,rfl,z52⟩:=h49
  have z52:=z52.ext f51
  refine dk rfl rfl (deps_nil ?_)
  have L58:ln (1%z)≤1073741824:=Nat.le_trans (ln_emod hm0) Lz
  refine cl (vs:= [.agg #[.bool s52,.slice A52 n52 c52],.agg #[.bool sb,.slice Ab nb cb]]) hw7 (k_ref5_Mod hw7.size z52.zi (z52.le (Nat.le_trans (show ln 1≤1 by decide+kernel) (by decide))) (hz.ext hw7) (lx_ lb rfl) hm0) rfl (by kernel_rfl) fun xr61 v59 r61 e60 hw8=>?_
  obtain⟨_,_,rfl,⟨s63,A63,n63,c63,rfl,z63⟩,rfl⟩:=r61
  exact pi_done rfl e60 ⟨_,_,rfl,⟨_,_,_,_,rfl,z63⟩,rfl⟩
 · 
  intro v64 e65
  refine deps_cons rfl rfl fun x66 y67 h68 e69 f70=>?_
  obtain⟨_,_,rfl,⟨s72,A72,n72,c72,rfl,z72⟩,rfl⟩:=h68
  have z72:=z72.ext f70
  refine deps_nil (mv 1 rfl ?_)
  exact pi_done rfl (Ext.refl _) ⟨_,_,rfl,⟨_,_,_,_,rfl,z72⟩,rfl⟩
 · 
  intro v73 e74
  refine deps_cons rfl rfl fun x75 y76 h77 e78 f79=>?_
  obtain⟨_,_,rfl,⟨s81,A81,n81,c81,rfl,z81⟩,rfl⟩:=h77
  have z81:=z81.ext f79
  refine deps_nil ?_
  exact⟨.agg #[.bool s81,.slice A81 n81 c81],rfl,rfl,fun _=>by kernel_rfl,⟨_,_,_,_,rfl,z81⟩⟩
 · 
  intro v82 e83
  refine deps_cons rfl rfl fun x84 y85 h86 e87 f88=>?_
  obtain⟨_,_,rfl,⟨s90,A90,n90,c90,rfl,z90⟩,rfl⟩:=h86
  have z90:=z90.ext f88
  refine deps_nil ?_
  exact⟨.int .i64 0,rfl,rfl,fun _=>by kernel_rfl,rfl⟩
 · 
  intro v91 e92
  refine deps_nil (wl_alloc rfl (z:= .agg #[F0,S0]) (vs:= [F0,S0]) (fun _=>by kernel_rfl) rfl (by decide) fun g93 v94 nb=>?_)
  exact pi_done rfl nb.ext ⟨_,rfl,by rw [←nb.at_];exact e92.size,nb.bk⟩
 · 
  intro v95 e96
  have hw7:=hw6.trans e96
  refine deps_cons rfl rfl fun x97 y98 h99 e100 f101=>?_
  obtain⟨s102,A102,n102,c102,rfl,z102⟩:=h99
  have z102:=z102.ext f101
  refine dk rfl rfl (deps_cons rfl rfl fun x108 y109 h110 e111 f112=>?_)
  obtain⟨_,_,rfl,⟨s114,A114,n114,c114,rfl,z114⟩,rfl⟩:=h110
  have z114:=z114.ext f112
  refine deps_cons rfl rfl fun x115 y116 h117 e118 f119=>?_
  obtain⟨_,_,rfl,⟨s121,A121,n121,c121,rfl,z121⟩,rfl⟩:=h117
  have z121:=z121.ext f119
  refine deps_cons rfl rfl fun x122 y123 h124 e125 f126=>?_
  obtain⟨s127,A127,n127,c127,rfl,z127⟩:=h124
  have z127:=z127.ext f126
  refine dk rfl rfl (deps_cons rfl rfl fun x133 y134 h135 e136 f137=>?_)
  obtain⟨g138,rfl,ge140,hb139⟩:=h135
  have hb139:=hb139.ext f137
  have q141:g18<g138:=Nat.lt_of_lt_of_le (hb21.ext (e25.trans e28)).lt ge140
  have ge140:w.heap.size≤g138:=Nat.le_trans hw6.size ge140
  refine deps_nil (so aggInt hb139 [.bool s127,.slice A127 n127 c127] hw7 ge140 rfl rfl rfl rfl fun v142 hb144 u145 hw8=>(mv 1 rfl (wl_nil (eo_np (eo_then (sr (lo aggInt ((hb4.ext (e8.trans (e14.trans (e20.trans (e25.trans (e28.trans e96)))))).updN u145 (by omega)) [.bool sa,.slice Aa na ca] rfl rfl rfl (lo aggInt ((hb15.ext (e20.trans (e25.trans (e28.trans e96)))).updN u145 (by omega)) [.bool sb,.slice Ab nb cb] rfl rfl rfl ?_))))))))
  have L147:ln (x%z)≤1073741824:=Nat.le_trans (ln_emod hm0) Lz
  refine cl (vs:= [.agg #[.bool sa,.slice Aa na ca],.agg #[.bool sb,.slice Ab nb cb]]) hw8 (k_ref5_Mod hw8.size (hx.ext hw8) (lx_ la rfl) (hz.ext hw8) (lx_ lb rfl) hm0) rfl (by kernel_rfl) fun xr150 v148 r150 e149 hw9=>?_
  obtain⟨_,_,rfl,⟨s152,A152,n152,c152,rfl,z152⟩,rfl⟩:=r150
  refine mv 1 rfl (pu (v:= .agg #[.bool s152,.slice A152 n152 c152]) rfl (by kernel_rfl) (pu (v:= .int .i64 0) rfl (by kernel_rfl) (alq [F0,S0] hw9 (hb144.ext e149).lt (fun _=>by kernel_rfl) rfl fun g153 v154 hb156 ge157 q158 e155 hw10=>(so aggInt hb156 [.bool s152,.slice A152 n152 c152] hw10 ge157 rfl rfl rfl rfl fun v159 hb161 u162 hw11=>(mv 1 rfl (ne_ (sr (pf g6 1 rfl (by kernel_rfl) (wl_load rfl rfl (load_cell cellWords ((((hb9.ext (e14.trans (e20.trans (e25.trans (e28.trans e96))))).updN u145 (by omega)).ext (e149.trans e155)).updN u162 (by omega)) rfl) (by decide) (cl (vs:= [.slice Af nf cf]) hw11 (ref3_Trim (hyr.ext hw11) (lx_ lf rfl)) rfl (by kernel_rfl) fun xr166 v164 r166 e165 hw12=>?_))))))))))
  obtain⟨K,rfl,hKn,_,hKv⟩:=r166
  have hdr:Rd w Af K cf (ys.take K):=hyr.take hKn (by have:=hyr.rv.le;omega) (Nat.le_refl _)
  have hdv:nv (ys.take K)=Int.natAbs y:=by rw [nv_nb,hKv,←nv_nb,hyn]
  generalize ys.take K=ds at hdr hdv
  have hdw:=hdr.wf
  have hdl:=hdr.len
  refine mv 1 rfl (ne_ (cw_seq (sr (mv 1 rfl (ne_ (cw_block ?_))))))
  refine cw_loop (T:=World×Nat×ZC×ZC×Int)
   (fun⟨wr,k,kp,ks,sv⟩=> [(3,.pointer (some ⟨g1,0,none⟩)),(4,.pointer (some ⟨g6,0,none⟩)),(5,.pointer (some ⟨g12,0,none⟩)),(6,.pointer (some ⟨g18,0,none⟩)),(7,.int .i64 0),(8,.pointer (some ⟨g138,0,none⟩)),(10,.pointer (some ⟨g153,0,none⟩)),(12,.slice Af K cf),(13,.int .i64 ((k:Nat):Int))])
   (fun⟨wr,k,kp,ks,sv⟩=>wr)
   (fun⟨wr,k,kp,ks,sv⟩=>(Ext w wr)∧(k≤K)∧(k<K→sv=x^(2^(64*k))%z)∧(ln sv≤1073741824)∧(Bk wr g1 27 [.bool sa,.slice Aa na ca])∧(Bk wr g6 27 [.bool sf,.slice Af nf cf])∧(Bk wr g12 27 [.bool sb,.slice Ab nb cb])∧(Bk wr g18 27 [F0,S0])∧(Bk wr g138 27 [.bool kp.s,.slice kp.A kp.n kp.c])∧(Bk wr g153 27 [.bool ks.s,.slice ks.A ks.n ks.c])∧(Zr wr w.heap.size kp.s kp.A kp.n kp.c (x^(nv ds%2^(64*k))%z))∧(Zr wr w.heap.size ks.s ks.A ks.n ks.c sv))
   (fun⟨wr,k,kp,ks,sv⟩=>K-k)
   (⟨v164,0,⟨s127,A127,n127,c127⟩,⟨s152,A152,n152,c152⟩,x%z⟩:World×Nat×ZC×ZC×Int) ⟨hw12,Nat.zero_le _,(fun _=>pow_first),(Nat.le_trans (ln_emod hm0) Lz),(((((hb4.ext (e8.trans (e14.trans (e20.trans (e25.trans (e28.trans e96)))))).updN u145 (by omega)).ext (e149.trans e155)).updN u162 (by omega)).ext e165),(((((hb9.ext (e14.trans (e20.trans (e25.trans (e28.trans e96))))).updN u145 (by omega)).ext (e149.trans e155)).updN u162 (by omega)).ext e165),(((((hb15.ext (e20.trans (e25.trans (e28.trans e96)))).updN u145 (by omega)).ext (e149.trans e155)).updN u162 (by omega)).ext e165),(((((hb21.ext (e25.trans (e28.trans e96))).updN u145 (by omega)).ext (e149.trans e155)).updN u162 (by omega)).ext e165),(((hb144.ext (e149.trans e155)).updN u162 (by omega)).ext e165),(hb161.ext e165),(((((z127.updT hb139 u145).ext (e149.trans e155)).updT hb156 u162).ext e165)).cast pow_none,(((z152.ext e155).updT hb156 u162).ext e165)⟩ rfl ⟨rfl,rfl,rfl,rfl,rfl,rfl,rfl,rfl,rfl,trivial⟩ ?_
  rintro⟨wr,k,kp,ks,sv⟩ ⟨hw1,hk,hsv,hsl,b_3,b_4,b_5,b_6,b_8,b_10,zp,zs⟩
  refine cw_re [(3,.pointer (some ⟨g1,0,none⟩)),(4,.pointer (some ⟨g6,0,none⟩)),(5,.pointer (some ⟨g12,0,none⟩)),(6,.pointer (some ⟨g18,0,none⟩)),(7,.int .i64 0),(8,.pointer (some ⟨g138,0,none⟩)),(10,.pointer (some ⟨g153,0,none⟩)),(12,.slice Af K cf),(13,.int .i64 ((k:Nat):Int))] wr rfl ⟨rfl,rfl,rfl,rfl,rfl,rfl,rfl,rfl,rfl,trivial⟩ (cw_seq (cw_seq ?_))
  by_cases hk0:k<K
  · 
   refine cw_region (mv 2 rfl (pu (v:= .int .i64 ((K:Nat):Int)) rfl (by kernel_rfl) (wl_cmp rfl rfl rfl true (cb_lt_t (a:=k) (b:=K) rfl rfl (by omega)) (by decide) (ne_ (cw_true rfl (cw_skip (eo_then (cw_seq (cw_block (cw_seq ?_))))))))))
   have hwb:ds.getD k 0≤18446744073709551615:=by have:=Wf_getD hdw k;rw [WB_def] at this;omega
   refine cw_region (mv 2 rfl ?_)
   obtain⟨p167,hp167,hc167,hv167⟩:=((hdr.ext hw1)).at (i:=k) (by omega)
   refine wl_idx rfl rfl rfl un_u64 sz_u64 k rfl (by omega) p167 hp167 (by decide) (wl_load rfl rfl (load_cell1 ag_u64 hc167) (by decide) (mv 1 rfl (ne_ (sr (mv 1 rfl (ne_ (cw_block ?_)))))))
   refine cw_loop (T:=World×Nat×Nat×ZC×ZC)
    (fun⟨wi,j,wv,kp2,ks2⟩=> [(3,.pointer (some ⟨g1,0,none⟩)),(4,.pointer (some ⟨g6,0,none⟩)),(5,.pointer (some ⟨g12,0,none⟩)),(6,.pointer (some ⟨g18,0,none⟩)),(7,.int .i64 0),(8,.pointer (some ⟨g138,0,none⟩)),(10,.pointer (some ⟨g153,0,none⟩)),(12,.slice Af K cf),(13,.int .i64 ((k:Nat):Int)),(14,.int .u64 ((wv:Nat):Int)),(15,.int .i64 ((j:Nat):Int))])
    (fun⟨wi,j,wv,kp2,ks2⟩=>wi)
    (fun⟨wi,j,wv,kp2,ks2⟩=>(Ext w wi)∧(j≤64)∧(wv=ds.getD k 0/2^j)∧(Bk wi g1 27 [.bool sa,.slice Aa na ca])∧(Bk wi g6 27 [.bool sf,.slice Af nf cf])∧(Bk wi g12 27 [.bool sb,.slice Ab nb cb])∧(Bk wi g18 27 [F0,S0])∧(Bk wi g138 27 [.bool kp2.s,.slice kp2.A kp2.n kp2.c])∧(Bk wi g153 27 [.bool ks2.s,.slice ks2.A ks2.n ks2.c])∧(Zr wi w.heap.size kp2.s kp2.A kp2.n kp2.c (x^(nv ds%2^(64*k+j))%z))∧(Zr wi w.heap.size ks2.s ks2.A ks2.n ks2.c (x^(2^(64*k+j))%z)))
    (fun⟨wi,j,wv,kp2,ks2⟩=>64-j)
    (⟨wr,0,ds.getD k 0,⟨kp.s,kp.A,kp.n,kp.c⟩,⟨ks.s,ks.A,ks.n,ks.c⟩⟩:World×Nat×Nat×ZC×ZC) ⟨hw1,Nat.zero_le _,(by rw [Nat.pow_zero,Nat.div_one]),b_3,b_4,b_5,b_6,b_8,b_10,(zp).cast rfl,(zs).cast (hsv hk0)⟩ rfl ⟨rfl,rfl,rfl,rfl,rfl,rfl,rfl,rfl,rfl,rfl,rfl,trivial⟩ ?_
   rintro⟨wi,j,wv,kp2,ks2⟩ ⟨hw1,hj,hwv,b_3,b_4,b_5,b_6,b_8,b_10,zp2,zs2⟩
   refine cw_re [(3,.pointer (some ⟨g1,0,none⟩)),(4,.pointer (some ⟨g6,0,none⟩)),(5,.pointer (some ⟨g12,0,none⟩)),(6,.pointer (some ⟨g18,0,none⟩)),(7,.int .i64 0),(8,.pointer (some ⟨g138,0,none⟩)),(10,.pointer (some ⟨g153,0,none⟩)),(12,.slice Af K cf),(13,.int .i64 ((k:Nat):Int)),(14,.int .u64 ((wv:Nat):Int)),(15,.int .i64 ((j:Nat):Int))] wi rfl ⟨rfl,rfl,rfl,rfl,rfl,rfl,rfl,rfl,rfl,rfl,rfl,trivial⟩ ?_
   have hwl:wv≤18446744073709551615:=by rw [hwv];exact Nat.le_trans (Nat.div_le_self _ _) hwb
   refine cw_seq (cw_seq ?_)
   by_cases hj64:j<64
   · 
    by_cases hw0:wv>0
    · 
     refine cw_region (mv 1 rfl (wl_cmp rfl rfl rfl true (cb_lt_t (a:=j) (b:=64) rfl rfl (by omega)) (by decide) (mv 2 rfl (wl_cmp rfl rfl rfl true (cb_gt_t (a:=wv) (b:=0) rfl rfl (by omega)) (by decide) (mv 6 rfl (pu (v:= .bool true) rfl (by kernel_rfl) (pu (v:= .bool true) rfl (by kernel_rfl) (ne_ (cw_true rfl (cw_skip (eo_then (cw_seq (cw_block ?_)))))))))))))
     refine cw_seq (cw_seq ?_)
     have hbt:nv ds/2^(64*k+j)%2=wv%2:=by rw [hwv];exact word_bit hdw (by omega) hj64
     by_cases hbit:wv%2=1
     · 
      refine cw_region (mv 1 rfl (wl_ar rfl rfl rfl ((wv%2:Nat):Int) (au_rem (a:=wv) (b:=2) rfl rfl (by omega)) (by decide) (wl_cmp rfl rfl rfl true (cb_eq_t (a:=wv%2) (b:=1) rfl rfl (by omega)) (by decide) (ne_ (cw_true rfl ?_)))))
      have L168:ln ((x^(nv ds%2^(64*k+j))%z)*(x^(2^(64*k+j))%z))≤2147483648:=Nat.le_trans (ln_mul (Nat.le_trans (ln_emod hm0) Lz) (Nat.le_trans (ln_emod hm0) Lz)) (by decide)
      have L170:ln (((x^(nv ds%2^(64*k+j))%z)*(x^(2^(64*k+j))%z))%z)≤1073741824:=Nat.le_trans (ln_emod hm0) Lz
      refine cw_draw mix 8 [6,7] [Is (.agg #[.bool kp2.s,.slice kp2.A kp2.n kp2.c]),Is (.agg #[.bool ks2.s,.slice ks2.A ks2.n ks2.c]),ZR w.heap.size ((x^(nv ds%2^(64*k+j))%z)*(x^(2^(64*k+j))%z)),Is (.agg #[.bool sb,.slice Ab nb cb]),T2 (ZR w.heap.size (((x^(nv ds%2^(64*k+j))%z)*(x^(2^(64*k+j))%z))%z)) (Is (.int .i64 0)),T2 (ZR w.heap.size (((x^(nv ds%2^(64*k+j))%z)*(x^(2^(64*k+j))%z))%z)) (Is (.int .i64 0)),ZR w.heap.size (((x^(nv ds%2^(64*k+j))%z)*(x^(2^(64*k+j))%z))%z),Is (.int .i64 0)] [[],[],[0,1],[],[2,3],[4],[5],[5]] [[],[],[0,1],[],[0,1,2,3],[0,1,2,3,4],[0,1,2,3,4,5],[0,1,2,3,4,5],[0,1,2,3,4,5,6]] rfl
       (obs_cons rfl rfl (hob rfl rfl ?_) (obs_cons rfl rfl (hob rfl rfl ?_) (obs_cons rfl rfl (hob rfl rfl ?_) (obs_cons rfl rfl (hob rfl rfl ?_) (obs_cons rfl rfl (hob rfl rfl ?_) (obs_cons rfl rfl (hob rfl rfl ?_) (obs_float rfl rfl (fob rfl ?_) (obs_float rfl rfl (fob rfl ?_) obs_nil)))))))) ?_
      · 
       exact fun _ e177=>deps_nil (lo aggInt (b_8.ext e177) [.bool kp2.s,.slice kp2.A kp2.n kp2.c] rfl rfl rfl (pi_done rfl (Ext.refl _) rfl))
      · 
       exact fun _ e179=>deps_nil (lo aggInt (b_10.ext e179) [.bool ks2.s,.slice ks2.A ks2.n ks2.c] rfl rfl rfl (pi_done rfl (Ext.refl _) rfl))
      · 
       intro v180 e181
       have hw2:=hw1.trans e181
       refine dk rfl rfl (dk rfl rfl (deps_nil ?_))
       have L192:ln ((x^(nv ds%2^(64*k+j))%z)*(x^(2^(64*k+j))%z))≤2147483648:=Nat.le_trans (ln_mul (Nat.le_trans (ln_emod hm0) Lz) (Nat.le_trans (ln_emod hm0) Lz)) (by decide)
       refine cl (vs:= [.agg #[.bool kp2.s,.slice kp2.A kp2.n kp2.c],.agg #[.bool ks2.s,.slice ks2.A ks2.n ks2.c]]) hw2 (g_ref5_Mul hw2.size (zp2.ext e181).zi (zp2.le (Nat.le_trans (Nat.le_trans (ln_emod hm0) Lz) (by decide))) (zs2.ext e181).zi (zs2.le (Nat.le_trans (Nat.le_trans (ln_emod hm0) Lz) (by decide)))) rfl (by kernel_rfl) fun xr195 v193 r195 e194 hw3=>?_
       obtain⟨s196,A196,n196,c196,rfl,z196⟩:=r195
       exact pi_done rfl e194 ⟨_,_,_,_,rfl,z196⟩
      · 
       exact fun _ e198=>deps_nil (lo aggInt (b_5.ext e198) [.bool sb,.slice Ab nb cb] rfl rfl rfl (pi_done rfl (Ext.refl _) rfl))
      · 
       intro v199 e200
       have hw2:=hw1.trans e200
       refine deps_cons rfl rfl fun x201 y202 h203 e204 f205=>?_
       obtain⟨s206,A206,n206,c206,rfl,z206⟩:=h203
       have z206:=z206.ext f205
       refine dk rfl rfl (deps_nil ?_)
       have L212:ln (((x^(nv ds%2^(64*k+j))%z)*(x^(2^(64*k+j))%z))%z)≤1073741824:=Nat.le_trans (ln_emod hm0) Lz
       refine cl (vs:= [.agg #[.bool s206,.slice A206 n206 c206],.agg #[.bool sb,.slice Ab nb cb]]) hw2 (k_ref5_Mod hw2.size z206.zi (z206.le (lx_ L168 rfl)) (hz.ext hw2) (lx_ lb rfl) hm0) rfl (by kernel_rfl) fun xr215 v213 r215 e214 hw3=>?_
       obtain⟨_,_,rfl,⟨s217,A217,n217,c217,rfl,z217⟩,rfl⟩:=r215
       exact pi_done rfl e214 ⟨_,_,rfl,⟨_,_,_,_,rfl,z217⟩,rfl⟩
      · 
       intro v218 e219
       refine deps_cons rfl rfl fun x220 y221 h222 e223 f224=>?_
       obtain⟨_,_,rfl,⟨s226,A226,n226,c226,rfl,z226⟩,rfl⟩:=h222
       have z226:=z226.ext f224
       refine deps_nil (mv 1 rfl ?_)
       exact pi_done rfl (Ext.refl _) ⟨_,_,rfl,⟨_,_,_,_,rfl,z226⟩,rfl⟩
      · 
       intro v227 e228
       refine deps_cons rfl rfl fun x229 y230 h231 e232 f233=>?_
       obtain⟨_,_,rfl,⟨s235,A235,n235,c235,rfl,z235⟩,rfl⟩:=h231
       have z235:=z235.ext f233
       refine deps_nil ?_
       exact⟨.agg #[.bool s235,.slice A235 n235 c235],rfl,rfl,fun _=>by kernel_rfl,⟨_,_,_,_,rfl,z235⟩⟩
      · 
       intro v236 e237
       refine deps_cons rfl rfl fun x238 y239 h240 e241 f242=>?_
       obtain⟨_,_,rfl,⟨s244,A244,n244,c244,rfl,z244⟩,rfl⟩:=h240
       have z244:=z244.ext f242
       refine deps_nil ?_
       exact⟨.int .i64 0,rfl,rfl,fun _=>by kernel_rfl,rfl⟩
      · 
       intro v245 e246
       have hw2:=hw1.trans e246
       refine dk rfl rfl (dk rfl rfl (deps_cons rfl rfl fun x257 y258 h259 e260 f261=>?_))
       obtain⟨s262,A262,n262,c262,rfl,z262⟩:=h259
       have z262:=z262.ext f261
       refine dk rfl rfl (deps_cons rfl rfl fun x268 y269 h270 e271 f272=>?_)
       obtain⟨_,_,rfl,⟨s274,A274,n274,c274,rfl,z274⟩,rfl⟩:=h270
       have z274:=z274.ext f272
       refine deps_cons rfl rfl fun x275 y276 h277 e278 f279=>?_
       obtain⟨_,_,rfl,⟨s281,A281,n281,c281,rfl,z281⟩,rfl⟩:=h277
       have z281:=z281.ext f279
       refine deps_cons rfl rfl fun x282 y283 h284 e285 f286=>?_
       obtain⟨s287,A287,n287,c287,rfl,z287⟩:=h284
       have z287:=z287.ext f286
       refine dk rfl rfl (deps_nil ?_)
       have hb294:=(b_8.ext e246)
       refine so aggInt hb294 [.bool s287,.slice A287 n287 c287] hw2 ge140 rfl rfl rfl rfl fun v293 hb295 u296 hw3=>(wl_nil (eo_np (eo_then (sr (mv 1 rfl (wl_ar rfl rfl rfl ((wv/2:Nat):Int) (au_quo (a:=wv) (b:=2) rfl rfl (by omega) (by omega)) (by decide) (mv 1 rfl (ne_ ?_))))))))
       have L298:ln ((x^(2^(64*k+j))%z)*(x^(2^(64*k+j))%z))≤2147483648:=Nat.le_trans (ln_mul (Nat.le_trans (ln_emod hm0) Lz) (Nat.le_trans (ln_emod hm0) Lz)) (by decide)
       have L300:ln (((x^(2^(64*k+j))%z)*(x^(2^(64*k+j))%z))%z)≤1073741824:=Nat.le_trans (ln_emod hm0) Lz
       refine cw_draw mix 8 [6,7] [Is (.agg #[.bool ks2.s,.slice ks2.A ks2.n ks2.c]),Is (.agg #[.bool ks2.s,.slice ks2.A ks2.n ks2.c]),ZR w.heap.size ((x^(2^(64*k+j))%z)*(x^(2^(64*k+j))%z)),Is (.agg #[.bool sb,.slice Ab nb cb]),T2 (ZR w.heap.size (((x^(2^(64*k+j))%z)*(x^(2^(64*k+j))%z))%z)) (Is (.int .i64 0)),T2 (ZR w.heap.size (((x^(2^(64*k+j))%z)*(x^(2^(64*k+j))%z))%z)) (Is (.int .i64 0)),ZR w.heap.size (((x^(2^(64*k+j))%z)*(x^(2^(64*k+j))%z))%z),Is (.int .i64 0)] [[],[],[0,1],[],[2,3],[4],[5],[5]] [[],[],[0,1],[],[0,1,2,3],[0,1,2,3,4],[0,1,2,3,4,5],[0,1,2,3,4,5],[0,1,2,3,4,5,6]] rfl
        (obs_cons rfl rfl (hob rfl rfl ?_) (obs_cons rfl rfl (hob rfl rfl ?_) (obs_cons rfl rfl (hob rfl rfl ?_) (obs_cons rfl rfl (hob rfl rfl ?_) (obs_cons rfl rfl (hob rfl rfl ?_) (obs_cons rfl rfl (hob rfl rfl ?_) (obs_float rfl rfl (fob rfl ?_) (obs_float rfl rfl (fob rfl ?_) obs_nil)))))))) ?_
       · 
        exact fun _ e307=>deps_nil (lo aggInt (((b_10.ext e246).updN u296 (by omega)).ext e307) [.bool ks2.s,.slice ks2.A ks2.n ks2.c] rfl rfl rfl (pi_done rfl (Ext.refl _) rfl))
       · 
        exact fun _ e309=>deps_nil (lo aggInt (((b_10.ext e246).updN u296 (by omega)).ext e309) [.bool ks2.s,.slice ks2.A ks2.n ks2.c] rfl rfl rfl (pi_done rfl (Ext.refl _) rfl))
       · 
        intro v310 e311
        have hw4:=hw3.trans e311
        refine dk rfl rfl (dk rfl rfl (deps_nil ?_))
        have L322:ln ((x^(2^(64*k+j))%z)*(x^(2^(64*k+j))%z))≤2147483648:=Nat.le_trans (ln_mul (Nat.le_trans (ln_emod hm0) Lz) (Nat.le_trans (ln_emod hm0) Lz)) (by decide)
        refine cl (vs:= [.agg #[.bool ks2.s,.slice ks2.A ks2.n ks2.c],.agg #[.bool ks2.s,.slice ks2.A ks2.n ks2.c]]) hw4 (g_ref5_Mul hw4.size (((zs2.ext e246).updT hb294 u296).ext e311).zi (zs2.le (Nat.le_trans (Nat.le_trans (ln_emod hm0) Lz) (by decide))) (((zs2.ext e246).updT hb294 u296).ext e311).zi (zs2.le (Nat.le_trans (Nat.le_trans (ln_emod hm0) Lz) (by decide)))) rfl (by kernel_rfl) fun xr325 v323 r325 e324 hw5=>?_
        obtain⟨s326,A326,n326,c326,rfl,z326⟩:=r325
        exact pi_done rfl e324 ⟨_,_,_,_,rfl,z326⟩
       · 
        exact fun _ e328=>deps_nil (lo aggInt (((b_5.ext e246).updN u296 (by omega)).ext e328) [.bool sb,.slice Ab nb cb] rfl rfl rfl (pi_done rfl (Ext.refl _) rfl))
       · 
        intro v329 e330
        have hw4:=hw3.trans e330
        refine deps_cons rfl rfl fun x331 y332 h333 e334 f335=>?_
        obtain⟨s336,A336,n336,c336,rfl,z336⟩:=h333
        have z336:=z336.ext f335
        refine dk rfl rfl (deps_nil ?_)
        have L342:ln (((x^(2^(64*k+j))%z)*(x^(2^(64*k+j))%z))%z)≤1073741824:=Nat.le_trans (ln_emod hm0) Lz
        refine cl (vs:= [.agg #[.bool s336,.slice A336 n336 c336],.agg #[.bool sb,.slice Ab nb cb]]) hw4 (k_ref5_Mod hw4.size z336.zi (z336.le (lx_ L298 rfl)) (hz.ext hw4) (lx_ lb rfl) hm0) rfl (by kernel_rfl) fun xr345 v343 r345 e344 hw5=>?_
        obtain⟨_,_,rfl,⟨s347,A347,n347,c347,rfl,z347⟩,rfl⟩:=r345
        exact pi_done rfl e344 ⟨_,_,rfl,⟨_,_,_,_,rfl,z347⟩,rfl⟩
       · 
        intro v348 e349
        refine deps_cons rfl rfl fun x350 y351 h352 e353 f354=>?_
        obtain⟨_,_,rfl,⟨s356,A356,n356,c356,rfl,z356⟩,rfl⟩:=h352
        have z356:=z356.ext f354
        refine deps_nil (mv 1 rfl ?_)
        exact pi_done rfl (Ext.refl _) ⟨_,_,rfl,⟨_,_,_,_,rfl,z356⟩,rfl⟩
       · 
        intro v357 e358
        refine deps_cons rfl rfl fun x359 y360 h361 e362 f363=>?_
        obtain⟨_,_,rfl,⟨s365,A365,n365,c365,rfl,z365⟩,rfl⟩:=h361
        have z365:=z365.ext f363
        refine deps_nil ?_
        exact⟨.agg #[.bool s365,.slice A365 n365 c365],rfl,rfl,fun _=>by kernel_rfl,⟨_,_,_,_,rfl,z365⟩⟩
       · 
        intro v366 e367
        refine deps_cons rfl rfl fun x368 y369 h370 e371 f372=>?_
        obtain⟨_,_,rfl,⟨s374,A374,n374,c374,rfl,z374⟩,rfl⟩:=h370
        have z374:=z374.ext f372
        refine deps_nil ?_
        exact⟨.int .i64 0,rfl,rfl,fun _=>by kernel_rfl,rfl⟩
       · 
        intro v375 e376
        have hw4:=hw3.trans e376
        refine dk rfl rfl (dk rfl rfl (deps_cons rfl rfl fun x387 y388 h389 e390 f391=>?_))
        obtain⟨s392,A392,n392,c392,rfl,z392⟩:=h389
        have z392:=z392.ext f391
        refine dk rfl rfl (deps_cons rfl rfl fun x398 y399 h400 e401 f402=>?_)
        obtain⟨_,_,rfl,⟨s404,A404,n404,c404,rfl,z404⟩,rfl⟩:=h400
        have z404:=z404.ext f402
        refine deps_cons rfl rfl fun x405 y406 h407 e408 f409=>?_
        obtain⟨_,_,rfl,⟨s411,A411,n411,c411,rfl,z411⟩,rfl⟩:=h407
        have z411:=z411.ext f409
        refine deps_cons rfl rfl fun x412 y413 h414 e415 f416=>?_
        obtain⟨s417,A417,n417,c417,rfl,z417⟩:=h414
        have z417:=z417.ext f416
        refine dk rfl rfl (deps_nil ?_)
        have hb424:=(((b_10.ext e246).updN u296 (by omega)).ext e376)
        refine so aggInt hb424 [.bool s417,.slice A417 n417 c417] hw4 ge157 rfl rfl rfl rfl fun v423 hb425 u426 hw5=>(wl_nil (eo_np (eo_block_normal (eo_then (cw_region (mv 1 rfl (wl_ar rfl rfl rfl ((j+1:Nat):Int) (ai_add (a:=j) (b:=1) rfl rfl (by omega)) (by decide) (mv 1 rfl (wl_nil (eo_round (⟨v423,j+1,wv/2,⟨s287,A287,n287,c287⟩,⟨s417,A417,n417,c417⟩⟩:World×Nat×Nat×ZC×ZC) ⟨hw5,(by omega),(by rw [hwv,Nat.div_div_eq_div_mul,←Nat.pow_succ]),((((b_3.ext e246).updN u296 (by omega)).ext e376).updN u426 (by omega)),((((b_4.ext e246).updN u296 (by omega)).ext e376).updN u426 (by omega)),((((b_5.ext e246).updN u296 (by omega)).ext e376).updN u426 (by omega)),((((b_6.ext e246).updN u296 (by omega)).ext e376).updN u426 (by omega)),((hb295.ext e376).updN u426 (by omega)),hb425,((((z287.updT hb294 u296).ext e376).updT hb424 u426)).cast (pow_lo_t (by rw [hbt];exact hbit)),((z417.updT hb424 u426)).cast pow_sq⟩ (show 64-(j+1)<64-j by omega) rfl ⟨rfl,rfl,rfl,rfl,rfl,rfl,rfl,rfl,rfl,rfl,rfl,trivial⟩))))))))))
     · 
      refine cw_region (mv 1 rfl (wl_ar rfl rfl rfl ((wv%2:Nat):Int) (au_rem (a:=wv) (b:=2) rfl rfl (by omega)) (by decide) (wl_cmp rfl rfl rfl false (cb_eq_f (a:=wv%2) (b:=1) rfl rfl (by omega)) (by decide) (ne_ (cw_false rfl (cw_skip (eo_then (sr (mv 1 rfl (wl_ar rfl rfl rfl ((wv/2:Nat):Int) (au_quo (a:=wv) (b:=2) rfl rfl (by omega) (by omega)) (by decide) (mv 1 rfl (ne_ ?_))))))))))))
      have L428:ln ((x^(2^(64*k+j))%z)*(x^(2^(64*k+j))%z))≤2147483648:=Nat.le_trans (ln_mul (Nat.le_trans (ln_emod hm0) Lz) (Nat.le_trans (ln_emod hm0) Lz)) (by decide)
      have L430:ln (((x^(2^(64*k+j))%z)*(x^(2^(64*k+j))%z))%z)≤1073741824:=Nat.le_trans (ln_emod hm0) Lz
      refine cw_draw mix 8 [6,7] [Is (.agg #[.bool ks2.s,.slice ks2.A ks2.n ks2.c]),Is (.agg #[.bool ks2.s,.slice ks2.A ks2.n ks2.c]),ZR w.heap.size ((x^(2^(64*k+j))%z)*(x^(2^(64*k+j))%z)),Is (.agg #[.bool sb,.slice Ab nb cb]),T2 (ZR w.heap.size (((x^(2^(64*k+j))%z)*(x^(2^(64*k+j))%z))%z)) (Is (.int .i64 0)),T2 (ZR w.heap.size (((x^(2^(64*k+j))%z)*(x^(2^(64*k+j))%z))%z)) (Is (.int .i64 0)),ZR w.heap.size (((x^(2^(64*k+j))%z)*(x^(2^(64*k+j))%z))%z),Is (.int .i64 0)] [[],[],[0,1],[],[2,3],[4],[5],[5]] [[],[],[0,1],[],[0,1,2,3],[0,1,2,3,4],[0,1,2,3,4,5],[0,1,2,3,4,5],[0,1,2,3,4,5,6]] rfl
       (obs_cons rfl rfl (hob rfl rfl ?_) (obs_cons rfl rfl (hob rfl rfl ?_) (obs_cons rfl rfl (hob rfl rfl ?_) (obs_cons rfl rfl (hob rfl rfl ?_) (obs_cons rfl rfl (hob rfl rfl ?_) (obs_cons rfl rfl (hob rfl rfl ?_) (obs_float rfl rfl (fob rfl ?_) (obs_float rfl rfl (fob rfl ?_) obs_nil)))))))) ?_
      · 
       exact fun _ e437=>deps_nil (lo aggInt (b_10.ext e437) [.bool ks2.s,.slice ks2.A ks2.n ks2.c] rfl rfl rfl (pi_done rfl (Ext.refl _) rfl))
      · 
       exact fun _ e439=>deps_nil (lo aggInt (b_10.ext e439) [.bool ks2.s,.slice ks2.A ks2.n ks2.c] rfl rfl rfl (pi_done rfl (Ext.refl _) rfl))
      · 
       intro v440 e441
       have hw2:=hw1.trans e441
       refine dk rfl rfl (dk rfl rfl (deps_nil ?_))
       have L452:ln ((x^(2^(64*k+j))%z)*(x^(2^(64*k+j))%z))≤2147483648:=Nat.le_trans (ln_mul (Nat.le_trans (ln_emod hm0) Lz) (Nat.le_trans (ln_emod hm0) Lz)) (by decide)
       refine cl (vs:= [.agg #[.bool ks2.s,.slice ks2.A ks2.n ks2.c],.agg #[.bool ks2.s,.slice ks2.A ks2.n ks2.c]]) hw2 (g_ref5_Mul hw2.size (zs2.ext e441).zi (zs2.le (Nat.le_trans (Nat.le_trans (ln_emod hm0) Lz) (by decide))) (zs2.ext e441).zi (zs2.le (Nat.le_trans (Nat.le_trans (ln_emod hm0) Lz) (by decide)))) rfl (by kernel_rfl) fun xr455 v453 r455 e454 hw3=>?_
       obtain⟨s456,A456,n456,c456,rfl,z456⟩:=r455
       exact pi_done rfl e454 ⟨_,_,_,_,rfl,z456⟩
      · 
       exact fun _ e458=>deps_nil (lo aggInt (b_5.ext e458) [.bool sb,.slice Ab nb cb] rfl rfl rfl (pi_done rfl (Ext.refl _) rfl))
      · 
       intro v459 e460
       have hw2:=hw1.trans e460
       refine deps_cons rfl rfl fun x461 y462 h463 e464 f465=>?_
       obtain⟨s466,A466,n466,c466,rfl,z466⟩:=h463
       have z466:=z466.ext f465
       refine dk rfl rfl (deps_nil ?_)
       have L472:ln (((x^(2^(64*k+j))%z)*(x^(2^(64*k+j))%z))%z)≤1073741824:=Nat.le_trans (ln_emod hm0) Lz
       refine cl (vs:= [.agg #[.bool s466,.slice A466 n466 c466],.agg #[.bool sb,.slice Ab nb cb]]) hw2 (k_ref5_Mod hw2.size z466.zi (z466.le (lx_ L428 rfl)) (hz.ext hw2) (lx_ lb rfl) hm0) rfl (by kernel_rfl) fun xr475 v473 r475 e474 hw3=>?_
       obtain⟨_,_,rfl,⟨s477,A477,n477,c477,rfl,z477⟩,rfl⟩:=r475
       exact pi_done rfl e474 ⟨_,_,rfl,⟨_,_,_,_,rfl,z477⟩,rfl⟩
      · 
       intro v478 e479
       refine deps_cons rfl rfl fun x480 y481 h482 e483 f484=>?_
       obtain⟨_,_,rfl,⟨s486,A486,n486,c486,rfl,z486⟩,rfl⟩:=h482
       have z486:=z486.ext f484
       refine deps_nil (mv 1 rfl ?_)
       exact pi_done rfl (Ext.refl _) ⟨_,_,rfl,⟨_,_,_,_,rfl,z486⟩,rfl⟩
      · 
       intro v487 e488
       refine deps_cons rfl rfl fun x489 y490 h491 e492 f493=>?_
       obtain⟨_,_,rfl,⟨s495,A495,n495,c495,rfl,z495⟩,rfl⟩:=h491
       have z495:=z495.ext f493
       refine deps_nil ?_
       exact⟨.agg #[.bool s495,.slice A495 n495 c495],rfl,rfl,fun _=>by kernel_rfl,⟨_,_,_,_,rfl,z495⟩⟩
      · 
       intro v496 e497
       refine deps_cons rfl rfl fun x498 y499 h500 e501 f502=>?_
       obtain⟨_,_,rfl,⟨s504,A504,n504,c504,rfl,z504⟩,rfl⟩:=h500
       have z504:=z504.ext f502
       refine deps_nil ?_
       exact⟨.int .i64 0,rfl,rfl,fun _=>by kernel_rfl,rfl⟩
      · 
       intro v505 e506
       have hw2:=hw1.trans e506
       refine dk rfl rfl (dk rfl rfl (deps_cons rfl rfl fun x517 y518 h519 e520 f521=>?_))
       obtain⟨s522,A522,n522,c522,rfl,z522⟩:=h519
       have z522:=z522.ext f521
       refine dk rfl rfl (deps_cons rfl rfl fun x528 y529 h530 e531 f532=>?_)
       obtain⟨_,_,rfl,⟨s534,A534,n534,c534,rfl,z534⟩,rfl⟩:=h530
       have z534:=z534.ext f532
       refine deps_cons rfl rfl fun x535 y536 h537 e538 f539=>?_
       obtain⟨_,_,rfl,⟨s541,A541,n541,c541,rfl,z541⟩,rfl⟩:=h537
       have z541:=z541.ext f539
       refine deps_cons rfl rfl fun x542 y543 h544 e545 f546=>?_
       obtain⟨s547,A547,n547,c547,rfl,z547⟩:=h544
       have z547:=z547.ext f546
       refine dk rfl rfl (deps_nil ?_)
       have hb554:=(b_10.ext e506)
       refine so aggInt hb554 [.bool s547,.slice A547 n547 c547] hw2 ge157 rfl rfl rfl rfl fun v553 hb555 u556 hw3=>(wl_nil (eo_np (eo_block_normal (eo_then (cw_region (mv 1 rfl (wl_ar rfl rfl rfl ((j+1:Nat):Int) (ai_add (a:=j) (b:=1) rfl rfl (by omega)) (by decide) (mv 1 rfl (wl_nil (eo_round (⟨v553,j+1,wv/2,⟨kp2.s,kp2.A,kp2.n,kp2.c⟩,⟨s547,A547,n547,c547⟩⟩:World×Nat×Nat×ZC×ZC) ⟨hw3,(by omega),(by rw [hwv,Nat.div_div_eq_div_mul,←Nat.pow_succ]),((b_3.ext e506).updN u556 (by omega)),((b_4.ext e506).updN u556 (by omega)),((b_5.ext e506).updN u556 (by omega)),((b_6.ext e506).updN u556 (by omega)),((b_8.ext e506).updN u556 (by omega)),hb555,(((zp2.ext e506).updT hb554 u556)).cast (pow_lo_f (by rw [hbt];exact hbit)),((z547.updT hb554 u556)).cast pow_sq⟩ (show 64-(j+1)<64-j by omega) rfl ⟨rfl,rfl,rfl,rfl,rfl,rfl,rfl,rfl,rfl,rfl,rfl,trivial⟩))))))))))
    · 
     by_cases hlast:k+1<K
     · 
      refine cw_region (mv 1 rfl (wl_cmp rfl rfl rfl true (cb_lt_t (a:=j) (b:=64) rfl rfl (by omega)) (by decide) (mv 2 rfl (wl_cmp rfl rfl rfl false (cb_gt_f (a:=wv) (b:=0) rfl rfl (by omega)) (by decide) (mv 2 rfl (wl_ar rfl rfl rfl ((k+1:Nat):Int) (ai_add (a:=k) (b:=1) rfl rfl (by omega)) (by decide) (mv 1 rfl (pu (v:= .int .i64 ((K:Nat):Int)) rfl (by kernel_rfl) (wl_cmp rfl rfl rfl true (cb_lt_t (a:=k+1) (b:=K) rfl rfl (by omega)) (by decide) (pu (v:= .bool true) rfl (by kernel_rfl) (pu (v:= .bool true) rfl (by kernel_rfl) (ne_ (cw_true rfl ?_)))))))))))))
      refine cw_skip (eo_then (cw_seq (cw_block (cw_seq (cw_seq ?_)))))
      have hbt:nv ds/2^(64*k+j)%2=wv%2:=by rw [hwv];exact word_bit hdw (by omega) hj64
      by_cases hbit:wv%2=1
      · 
       refine cw_region (mv 1 rfl (wl_ar rfl rfl rfl ((wv%2:Nat):Int) (au_rem (a:=wv) (b:=2) rfl rfl (by omega)) (by decide) (wl_cmp rfl rfl rfl true (cb_eq_t (a:=wv%2) (b:=1) rfl rfl (by omega)) (by decide) (ne_ (cw_true rfl ?_)))))
       have L558:ln ((x^(nv ds%2^(64*k+j))%z)*(x^(2^(64*k+j))%z))≤2147483648:=Nat.le_trans (ln_mul (Nat.le_trans (ln_emod hm0) Lz) (Nat.le_trans (ln_emod hm0) Lz)) (by decide)
       have L560:ln (((x^(nv ds%2^(64*k+j))%z)*(x^(2^(64*k+j))%z))%z)≤1073741824:=Nat.le_trans (ln_emod hm0) Lz
       refine cw_draw mix 8 [6,7] [Is (.agg #[.bool kp2.s,.slice kp2.A kp2.n kp2.c]),Is (.agg #[.bool ks2.s,.slice ks2.A ks2.n ks2.c]),ZR w.heap.size ((x^(nv ds%2^(64*k+j))%z)*(x^(2^(64*k+j))%z)),Is (.agg #[.bool sb,.slice Ab nb cb]),T2 (ZR w.heap.size (((x^(nv ds%2^(64*k+j))%z)*(x^(2^(64*k+j))%z))%z)) (Is (.int .i64 0)),T2 (ZR w.heap.size (((x^(nv ds%2^(64*k+j))%z)*(x^(2^(64*k+j))%z))%z)) (Is (.int .i64 0)),ZR w.heap.size (((x^(nv ds%2^(64*k+j))%z)*(x^(2^(64*k+j))%z))%z),Is (.int .i64 0)] [[],[],[0,1],[],[2,3],[4],[5],[5]] [[],[],[0,1],[],[0,1,2,3],[0,1,2,3,4],[0,1,2,3,4,5],[0,1,2,3,4,5],[0,1,2,3,4,5,6]] rfl
        (obs_cons rfl rfl (hob rfl rfl ?_) (obs_cons rfl rfl (hob rfl rfl ?_) (obs_cons rfl rfl (hob rfl rfl ?_) (obs_cons rfl rfl (hob rfl rfl ?_) (obs_cons rfl rfl (hob rfl rfl ?_) (obs_cons rfl rfl (hob rfl rfl ?_) (obs_float rfl rfl (fob rfl ?_) (obs_float rfl rfl (fob rfl ?_) obs_nil)))))))) ?_
       · 
        exact fun _ e567=>deps_nil (lo aggInt (b_8.ext e567) [.bool kp2.s,.slice kp2.A kp2.n kp2.c] rfl rfl rfl (pi_done rfl (Ext.refl _) rfl))
       · 
        exact fun _ e569=>deps_nil (lo aggInt (b_10.ext e569) [.bool ks2.s,.slice ks2.A ks2.n ks2.c] rfl rfl rfl (pi_done rfl (Ext.refl _) rfl))
       · 
        intro v570 e571
        have hw2:=hw1.trans e571
        refine dk rfl rfl (dk rfl rfl (deps_nil ?_))
        have L582:ln ((x^(nv ds%2^(64*k+j))%z)*(x^(2^(64*k+j))%z))≤2147483648:=Nat.le_trans (ln_mul (Nat.le_trans (ln_emod hm0) Lz) (Nat.le_trans (ln_emod hm0) Lz)) (by decide)
        refine cl (vs:= [.agg #[.bool kp2.s,.slice kp2.A kp2.n kp2.c],.agg #[.bool ks2.s,.slice ks2.A ks2.n ks2.c]]) hw2 (g_ref5_Mul hw2.size (zp2.ext e571).zi (zp2.le (Nat.le_trans (Nat.le_trans (ln_emod hm0) Lz) (by decide))) (zs2.ext e571).zi (zs2.le (Nat.le_trans (Nat.le_trans (ln_emod hm0) Lz) (by decide)))) rfl (by kernel_rfl) fun xr585 v583 r585 e584 hw3=>?_
        obtain⟨s586,A586,n586,c586,rfl,z586⟩:=r585
        exact pi_done rfl e584 ⟨_,_,_,_,rfl,z586⟩
       · 
        exact fun _ e588=>deps_nil (lo aggInt (b_5.ext e588) [.bool sb,.slice Ab nb cb] rfl rfl rfl (pi_done rfl (Ext.refl _) rfl))
       · 
        intro v589 e590
        have hw2:=hw1.trans e590
        refine deps_cons rfl rfl fun x591 y592 h593 e594 f595=>?_
        obtain⟨s596,A596,n596,c596,rfl,z596⟩:=h593
        have z596:=z596.ext f595
        refine dk rfl rfl (deps_nil ?_)
        have L602:ln (((x^(nv ds%2^(64*k+j))%z)*(x^(2^(64*k+j))%z))%z)≤1073741824:=Nat.le_trans (ln_emod hm0) Lz
        refine cl (vs:= [.agg #[.bool s596,.slice A596 n596 c596],.agg #[.bool sb,.slice Ab nb cb]]) hw2 (k_ref5_Mod hw2.size z596.zi (z596.le (lx_ L558 rfl)) (hz.ext hw2) (lx_ lb rfl) hm0) rfl (by kernel_rfl) fun xr605 v603 r605 e604 hw3=>?_
        obtain⟨_,_,rfl,⟨s607,A607,n607,c607,rfl,z607⟩,rfl⟩:=r605
        exact pi_done rfl e604 ⟨_,_,rfl,⟨_,_,_,_,rfl,z607⟩,rfl⟩
       · 
        intro v608 e609
        refine deps_cons rfl rfl fun x610 y611 h612 e613 f614=>?_
        obtain⟨_,_,rfl,⟨s616,A616,n616,c616,rfl,z616⟩,rfl⟩:=h612
        have z616:=z616.ext f614
        refine deps_nil (mv 1 rfl ?_)
        exact pi_done rfl (Ext.refl _) ⟨_,_,rfl,⟨_,_,_,_,rfl,z616⟩,rfl⟩
       · 
        intro v617 e618
        refine deps_cons rfl rfl fun x619 y620 h621 e622 f623=>?_
        obtain⟨_,_,rfl,⟨s625,A625,n625,c625,rfl,z625⟩,rfl⟩:=h621
        have z625:=z625.ext f623
        refine deps_nil ?_
        exact⟨.agg #[.bool s625,.slice A625 n625 c625],rfl,rfl,fun _=>by kernel_rfl,⟨_,_,_,_,rfl,z625⟩⟩
       · 
        intro v626 e627
        refine deps_cons rfl rfl fun x628 y629 h630 e631 f632=>?_
        obtain⟨_,_,rfl,⟨s634,A634,n634,c634,rfl,z634⟩,rfl⟩:=h630
        have z634:=z634.ext f632
        refine deps_nil ?_
        exact⟨.int .i64 0,rfl,rfl,fun _=>by kernel_rfl,rfl⟩
       · 
        intro v635 e636
        have hw2:=hw1.trans e636
        refine dk rfl rfl (dk rfl rfl (deps_cons rfl rfl fun x647 y648 h649 e650 f651=>?_))
        obtain⟨s652,A652,n652,c652,rfl,z652⟩:=h649
        have z652:=z652.ext f651
        refine dk rfl rfl (deps_cons rfl rfl fun x658 y659 h660 e661 f662=>?_)
        obtain⟨_,_,rfl,⟨s664,A664,n664,c664,rfl,z664⟩,rfl⟩:=h660
        have z664:=z664.ext f662
        refine deps_cons rfl rfl fun x665 y666 h667 e668 f669=>?_
        obtain⟨_,_,rfl,⟨s671,A671,n671,c671,rfl,z671⟩,rfl⟩:=h667
        have z671:=z671.ext f669
        refine deps_cons rfl rfl fun x672 y673 h674 e675 f676=>?_
        obtain⟨s677,A677,n677,c677,rfl,z677⟩:=h674
        have z677:=z677.ext f676
        refine dk rfl rfl (deps_nil ?_)
        have hb684:=(b_8.ext e636)
        refine so aggInt hb684 [.bool s677,.slice A677 n677 c677] hw2 ge140 rfl rfl rfl rfl fun v683 hb685 u686 hw3=>(wl_nil (eo_np (eo_then (sr (mv 1 rfl (wl_ar rfl rfl rfl ((wv/2:Nat):Int) (au_quo (a:=wv) (b:=2) rfl rfl (by omega) (by omega)) (by decide) (mv 1 rfl (ne_ ?_))))))))
        have L688:ln ((x^(2^(64*k+j))%z)*(x^(2^(64*k+j))%z))≤2147483648:=Nat.le_trans (ln_mul (Nat.le_trans (ln_emod hm0) Lz) (Nat.le_trans (ln_emod hm0) Lz)) (by decide)
        have L690:ln (((x^(2^(64*k+j))%z)*(x^(2^(64*k+j))%z))%z)≤1073741824:=Nat.le_trans (ln_emod hm0) Lz
        refine cw_draw mix 8 [6,7] [Is (.agg #[.bool ks2.s,.slice ks2.A ks2.n ks2.c]),Is (.agg #[.bool ks2.s,.slice ks2.A ks2.n ks2.c]),ZR w.heap.size ((x^(2^(64*k+j))%z)*(x^(2^(64*k+j))%z)),Is (.agg #[.bool sb,.slice Ab nb cb]),T2 (ZR w.heap.size (((x^(2^(64*k+j))%z)*(x^(2^(64*k+j))%z))%z)) (Is (.int .i64 0)),T2 (ZR w.heap.size (((x^(2^(64*k+j))%z)*(x^(2^(64*k+j))%z))%z)) (Is (.int .i64 0)),ZR w.heap.size (((x^(2^(64*k+j))%z)*(x^(2^(64*k+j))%z))%z),Is (.int .i64 0)] [[],[],[0,1],[],[2,3],[4],[5],[5]] [[],[],[0,1],[],[0,1,2,3],[0,1,2,3,4],[0,1,2,3,4,5],[0,1,2,3,4,5],[0,1,2,3,4,5,6]] rfl
         (obs_cons rfl rfl (hob rfl rfl ?_) (obs_cons rfl rfl (hob rfl rfl ?_) (obs_cons rfl rfl (hob rfl rfl ?_) (obs_cons rfl rfl (hob rfl rfl ?_) (obs_cons rfl rfl (hob rfl rfl ?_) (obs_cons rfl rfl (hob rfl rfl ?_) (obs_float rfl rfl (fob rfl ?_) (obs_float rfl rfl (fob rfl ?_) obs_nil)))))))) ?_
        · 
         exact fun _ e697=>deps_nil (lo aggInt (((b_10.ext e636).updN u686 (by omega)).ext e697) [.bool ks2.s,.slice ks2.A ks2.n ks2.c] rfl rfl rfl (pi_done rfl (Ext.refl _) rfl))
        · 
         exact fun _ e699=>deps_nil (lo aggInt (((b_10.ext e636).updN u686 (by omega)).ext e699) [.bool ks2.s,.slice ks2.A ks2.n ks2.c] rfl rfl rfl (pi_done rfl (Ext.refl _) rfl))
        · 
         intro v700 e701
         have hw4:=hw3.trans e701
         refine dk rfl rfl (dk rfl rfl (deps_nil ?_))
         have L712:ln ((x^(2^(64*k+j))%z)*(x^(2^(64*k+j))%z))≤2147483648:=Nat.le_trans (ln_mul (Nat.le_trans (ln_emod hm0) Lz) (Nat.le_trans (ln_emod hm0) Lz)) (by decide)
         refine cl (vs:= [.agg #[.bool ks2.s,.slice ks2.A ks2.n ks2.c],.agg #[.bool ks2.s,.slice ks2.A ks2.n ks2.c]]) hw4 (g_ref5_Mul hw4.size (((zs2.ext e636).updT hb684 u686).ext e701).zi (zs2.le (Nat.le_trans (Nat.le_trans (ln_emod hm0) Lz) (by decide))) (((zs2.ext e636).updT hb684 u686).ext e701).zi (zs2.le (Nat.le_trans (Nat.le_trans (ln_emod hm0) Lz) (by decide)))) rfl (by kernel_rfl) fun xr715 v713 r715 e714 hw5=>?_
         obtain⟨s716,A716,n716,c716,rfl,z716⟩:=r715
         exact pi_done rfl e714 ⟨_,_,_,_,rfl,z716⟩
        · 
         exact fun _ e718=>deps_nil (lo aggInt (((b_5.ext e636).updN u686 (by omega)).ext e718) [.bool sb,.slice Ab nb cb] rfl rfl rfl (pi_done rfl (Ext.refl _) rfl))
        · 
         intro v719 e720
         have hw4:=hw3.trans e720
         refine deps_cons rfl rfl fun x721 y722 h723 e724 f725=>?_
         obtain⟨s726,A726,n726,c726,rfl,z726⟩:=h723
         have z726:=z726.ext f725
         refine dk rfl rfl (deps_nil ?_)
         have L732:ln (((x^(2^(64*k+j))%z)*(x^(2^(64*k+j))%z))%z)≤1073741824:=Nat.le_trans (ln_emod hm0) Lz
         refine cl (vs:= [.agg #[.bool s726,.slice A726 n726 c726],.agg #[.bool sb,.slice Ab nb cb]]) hw4 (k_ref5_Mod hw4.size z726.zi (z726.le (lx_ L688 rfl)) (hz.ext hw4) (lx_ lb rfl) hm0) rfl (by kernel_rfl) fun xr735 v733 r735 e734 hw5=>?_
         obtain⟨_,_,rfl,⟨s737,A737,n737,c737,rfl,z737⟩,rfl⟩:=r735
         exact pi_done rfl e734 ⟨_,_,rfl,⟨_,_,_,_,rfl,z737⟩,rfl⟩
        · 
         intro v738 e739
         refine deps_cons rfl rfl fun x740 y741 h742 e743 f744=>?_
         obtain⟨_,_,rfl,⟨s746,A746,n746,c746,rfl,z746⟩,rfl⟩:=h742
         have z746:=z746.ext f744
         refine deps_nil (mv 1 rfl ?_)
         exact pi_done rfl (Ext.refl _) ⟨_,_,rfl,⟨_,_,_,_,rfl,z746⟩,rfl⟩
        · 
         intro v747 e748
         refine deps_cons rfl rfl fun x749 y750 h751 e752 f753=>?_
         obtain⟨_,_,rfl,⟨s755,A755,n755,c755,rfl,z755⟩,rfl⟩:=h751
         have z755:=z755.ext f753
         refine deps_nil ?_
         exact⟨.agg #[.bool s755,.slice A755 n755 c755],rfl,rfl,fun _=>by kernel_rfl,⟨_,_,_,_,rfl,z755⟩⟩
        · 
         intro v756 e757
         refine deps_cons rfl rfl fun x758 y759 h760 e761 f762=>?_
         obtain⟨_,_,rfl,⟨s764,A764,n764,c764,rfl,z764⟩,rfl⟩:=h760
         have z764:=z764.ext f762
         refine deps_nil ?_
         exact⟨.int .i64 0,rfl,rfl,fun _=>by kernel_rfl,rfl⟩
        · 
         intro v765 e766
         have hw4:=hw3.trans e766
         refine dk rfl rfl (dk rfl rfl (deps_cons rfl rfl fun x777 y778 h779 e780 f781=>?_))
         obtain⟨s782,A782,n782,c782,rfl,z782⟩:=h779
         have z782:=z782.ext f781
         refine dk rfl rfl (deps_cons rfl rfl fun x788 y789 h790 e791 f792=>?_)
         obtain⟨_,_,rfl,⟨s794,A794,n794,c794,rfl,z794⟩,rfl⟩:=h790
         have z794:=z794.ext f792
         refine deps_cons rfl rfl fun x795 y796 h797 e798 f799=>?_
         obtain⟨_,_,rfl,⟨s801,A801,n801,c801,rfl,z801⟩,rfl⟩:=h797
         have z801:=z801.ext f799
         refine deps_cons rfl rfl fun x802 y803 h804 e805 f806=>?_
         obtain⟨s807,A807,n807,c807,rfl,z807⟩:=h804
         have z807:=z807.ext f806
         refine dk rfl rfl (deps_nil ?_)
         have hb814:=(((b_10.ext e636).updN u686 (by omega)).ext e766)
         refine so aggInt hb814 [.bool s807,.slice A807 n807 c807] hw4 ge157 rfl rfl rfl rfl fun v813 hb815 u816 hw5=>(wl_nil (eo_np (eo_block_normal (eo_then (cw_region (mv 1 rfl (wl_ar rfl rfl rfl ((j+1:Nat):Int) (ai_add (a:=j) (b:=1) rfl rfl (by omega)) (by decide) (mv 1 rfl (wl_nil (eo_round (⟨v813,j+1,wv/2,⟨s677,A677,n677,c677⟩,⟨s807,A807,n807,c807⟩⟩:World×Nat×Nat×ZC×ZC) ⟨hw5,(by omega),(by rw [hwv,Nat.div_div_eq_div_mul,←Nat.pow_succ]),((((b_3.ext e636).updN u686 (by omega)).ext e766).updN u816 (by omega)),((((b_4.ext e636).updN u686 (by omega)).ext e766).updN u816 (by omega)),((((b_5.ext e636).updN u686 (by omega)).ext e766).updN u816 (by omega)),((((b_6.ext e636).updN u686 (by omega)).ext e766).updN u816 (by omega)),((hb685.ext e766).updN u816 (by omega)),hb815,((((z677.updT hb684 u686).ext e766).updT hb814 u816)).cast (pow_lo_t (by rw [hbt];exact hbit)),((z807.updT hb814 u816)).cast pow_sq⟩ (show 64-(j+1)<64-j by omega) rfl ⟨rfl,rfl,rfl,rfl,rfl,rfl,rfl,rfl,rfl,rfl,rfl,trivial⟩))))))))))
      · 
       refine cw_region (mv 1 rfl (wl_ar rfl rfl rfl ((wv%2:Nat):Int) (au_rem (a:=wv) (b:=2) rfl rfl (by omega)) (by decide) (wl_cmp rfl rfl rfl false (cb_eq_f (a:=wv%2) (b:=1) rfl rfl (by omega)) (by decide) (ne_ (cw_false rfl (cw_skip (eo_then (sr (mv 1 rfl (wl_ar rfl rfl rfl ((wv/2:Nat):Int) (au_quo (a:=wv) (b:=2) rfl rfl (by omega) (by omega)) (by decide) (mv 1 rfl (ne_ ?_))))))))))))
       have L818:ln ((x^(2^(64*k+j))%z)*(x^(2^(64*k+j))%z))≤2147483648:=Nat.le_trans (ln_mul (Nat.le_trans (ln_emod hm0) Lz) (Nat.le_trans (ln_emod hm0) Lz)) (by decide)
       have L820:ln (((x^(2^(64*k+j))%z)*(x^(2^(64*k+j))%z))%z)≤1073741824:=Nat.le_trans (ln_emod hm0) Lz
       refine cw_draw mix 8 [6,7] [Is (.agg #[.bool ks2.s,.slice ks2.A ks2.n ks2.c]),Is (.agg #[.bool ks2.s,.slice ks2.A ks2.n ks2.c]),ZR w.heap.size ((x^(2^(64*k+j))%z)*(x^(2^(64*k+j))%z)),Is (.agg #[.bool sb,.slice Ab nb cb]),T2 (ZR w.heap.size (((x^(2^(64*k+j))%z)*(x^(2^(64*k+j))%z))%z)) (Is (.int .i64 0)),T2 (ZR w.heap.size (((x^(2^(64*k+j))%z)*(x^(2^(64*k+j))%z))%z)) (Is (.int .i64 0)),ZR w.heap.size (((x^(2^(64*k+j))%z)*(x^(2^(64*k+j))%z))%z),Is (.int .i64 0)] [[],[],[0,1],[],[2,3],[4],[5],[5]] [[],[],[0,1],[],[0,1,2,3],[0,1,2,3,4],[0,1,2,3,4,5],[0,1,2,3,4,5],[0,1,2,3,4,5,6]] rfl
        (obs_cons rfl rfl (hob rfl rfl ?_) (obs_cons rfl rfl (hob rfl rfl ?_) (obs_cons rfl rfl (hob rfl rfl ?_) (obs_cons rfl rfl (hob rfl rfl ?_) (obs_cons rfl rfl (hob rfl rfl ?_) (obs_cons rfl rfl (hob rfl rfl ?_) (obs_float rfl rfl (fob rfl ?_) (obs_float rfl rfl (fob rfl ?_) obs_nil)))))))) ?_
       · 
        exact fun _ e827=>deps_nil (lo aggInt (b_10.ext e827) [.bool ks2.s,.slice ks2.A ks2.n ks2.c] rfl rfl rfl (pi_done rfl (Ext.refl _) rfl))
       · 
        exact fun _ e829=>deps_nil (lo aggInt (b_10.ext e829) [.bool ks2.s,.slice ks2.A ks2.n ks2.c] rfl rfl rfl (pi_done rfl (Ext.refl _) rfl))
       · 
        intro v830 e831
        have hw2:=hw1.trans e831
        refine dk rfl rfl (dk rfl rfl (deps_nil ?_))
        have L842:ln ((x^(2^(64*k+j))%z)*(x^(2^(64*k+j))%z))≤2147483648:=Nat.le_trans (ln_mul (Nat.le_trans (ln_emod hm0) Lz) (Nat.le_trans (ln_emod hm0) Lz)) (by decide)
        refine cl (vs:= [.agg #[.bool ks2.s,.slice ks2.A ks2.n ks2.c],.agg #[.bool ks2.s,.slice ks2.A ks2.n ks2.c]]) hw2 (g_ref5_Mul hw2.size (zs2.ext e831).zi (zs2.le (Nat.le_trans (Nat.le_trans (ln_emod hm0) Lz) (by decide))) (zs2.ext e831).zi (zs2.le (Nat.le_trans (Nat.le_trans (ln_emod hm0) Lz) (by decide)))) rfl (by kernel_rfl) fun xr845 v843 r845 e844 hw3=>?_
        obtain⟨s846,A846,n846,c846,rfl,z846⟩:=r845
        exact pi_done rfl e844 ⟨_,_,_,_,rfl,z846⟩
       · 
        exact fun _ e848=>deps_nil (lo aggInt (b_5.ext e848) [.bool sb,.slice Ab nb cb] rfl rfl rfl (pi_done rfl (Ext.refl _) rfl))
       · 
        intro v849 e850
        have hw2:=hw1.trans e850
        refine deps_cons rfl rfl fun x851 y852 h853 e854 f855=>?_
        obtain⟨s856,A856,n856,c856,rfl,z856⟩:=h853
        have z856:=z856.ext f855
        refine dk rfl rfl (deps_nil ?_)
        have L862:ln (((x^(2^(64*k+j))%z)*(x^(2^(64*k+j))%z))%z)≤1073741824:=Nat.le_trans (ln_emod hm0) Lz
        refine cl (vs:= [.agg #[.bool s856,.slice A856 n856 c856],.agg #[.bool sb,.slice Ab nb cb]]) hw2 (k_ref5_Mod hw2.size z856.zi (z856.le (lx_ L818 rfl)) (hz.ext hw2) (lx_ lb rfl) hm0) rfl (by kernel_rfl) fun xr865 v863 r865 e864 hw3=>?_
        obtain⟨_,_,rfl,⟨s867,A867,n867,c867,rfl,z867⟩,rfl⟩:=r865
        exact pi_done rfl e864 ⟨_,_,rfl,⟨_,_,_,_,rfl,z867⟩,rfl⟩
       · 
        intro v868 e869
        refine deps_cons rfl rfl fun x870 y871 h872 e873 f874=>?_
        obtain⟨_,_,rfl,⟨s876,A876,n876,c876,rfl,z876⟩,rfl⟩:=h872
        have z876:=z876.ext f874
        refine deps_nil (mv 1 rfl ?_)
        exact pi_done rfl (Ext.refl _) ⟨_,_,rfl,⟨_,_,_,_,rfl,z876⟩,rfl⟩
       · 
        intro v877 e878
        refine deps_cons rfl rfl fun x879 y880 h881 e882 f883=>?_
        obtain⟨_,_,rfl,⟨s885,A885,n885,c885,rfl,z885⟩,rfl⟩:=h881
        have z885:=z885.ext f883
        refine deps_nil ?_
        exact⟨.agg #[.bool s885,.slice A885 n885 c885],rfl,rfl,fun _=>by kernel_rfl,⟨_,_,_,_,rfl,z885⟩⟩
       · 
        intro v886 e887
        refine deps_cons rfl rfl fun x888 y889 h890 e891 f892=>?_
        obtain⟨_,_,rfl,⟨s894,A894,n894,c894,rfl,z894⟩,rfl⟩:=h890
        have z894:=z894.ext f892
        refine deps_nil ?_
        exact⟨.int .i64 0,rfl,rfl,fun _=>by kernel_rfl,rfl⟩
       · 
        intro v895 e896
        have hw2:=hw1.trans e896
        refine dk rfl rfl (dk rfl rfl (deps_cons rfl rfl fun x907 y908 h909 e910 f911=>?_))
        obtain⟨s912,A912,n912,c912,rfl,z912⟩:=h909
        have z912:=z912.ext f911
        refine dk rfl rfl (deps_cons rfl rfl fun x918 y919 h920 e921 f922=>?_)
        obtain⟨_,_,rfl,⟨s924,A924,n924,c924,rfl,z924⟩,rfl⟩:=h920
        have z924:=z924.ext f922
        refine deps_cons rfl rfl fun x925 y926 h927 e928 f929=>?_
        obtain⟨_,_,rfl,⟨s931,A931,n931,c931,rfl,z931⟩,rfl⟩:=h927
        have z931:=z931.ext f929
        refine deps_cons rfl rfl fun x932 y933 h934 e935 f936=>?_
        obtain⟨s937,A937,n937,c937,rfl,z937⟩:=h934
        have z937:=z937.ext f936
        refine dk rfl rfl (deps_nil ?_)
        have hb944:=(b_10.ext e896)
        refine so aggInt hb944 [.bool s937,.slice A937 n937 c937] hw2 ge157 rfl rfl rfl rfl fun v943 hb945 u946 hw3=>(wl_nil (eo_np (eo_block_normal (eo_then (cw_region (mv 1 rfl (wl_ar rfl rfl rfl ((j+1:Nat):Int) (ai_add (a:=j) (b:=1) rfl rfl (by omega)) (by decide) (mv 1 rfl (wl_nil (eo_round (⟨v943,j+1,wv/2,⟨kp2.s,kp2.A,kp2.n,kp2.c⟩,⟨s937,A937,n937,c937⟩⟩:World×Nat×Nat×ZC×ZC) ⟨hw3,(by omega),(by rw [hwv,Nat.div_div_eq_div_mul,←Nat.pow_succ]),((b_3.ext e896).updN u946 (by omega)),((b_4.ext e896).updN u946 (by omega)),((b_5.ext e896).updN u946 (by omega)),((b_6.ext e896).updN u946 (by omega)),((b_8.ext e896).updN u946 (by omega)),hb945,(((zp2.ext e896).updT hb944 u946)).cast (pow_lo_f (by rw [hbt];exact hbit)),((z937.updT hb944 u946)).cast pow_sq⟩ (show 64-(j+1)<64-j by omega) rfl ⟨rfl,rfl,rfl,rfl,rfl,rfl,rfl,rfl,rfl,rfl,rfl,trivial⟩))))))))))
     · 
      have hw00:ds.getD k 0/2^j=0:=by rw [←hwv];omega
      refine cw_region (mv 1 rfl (wl_cmp rfl rfl rfl true (cb_lt_t (a:=j) (b:=64) rfl rfl (by omega)) (by decide) (mv 2 rfl (wl_cmp rfl rfl rfl false (cb_gt_f (a:=wv) (b:=0) rfl rfl (by omega)) (by decide) (mv 2 rfl (wl_ar rfl rfl rfl ((k+1:Nat):Int) (ai_add (a:=k) (b:=1) rfl rfl (by omega)) (by decide) (mv 1 rfl (pu (v:= .int .i64 ((K:Nat):Int)) rfl (by kernel_rfl) (wl_cmp rfl rfl rfl false (cb_lt_f (a:=k+1) (b:=K) rfl rfl (by omega)) (by decide) (pu (v:= .bool false) rfl (by kernel_rfl) (pu (v:= .bool false) rfl (by kernel_rfl) (ne_ (cw_false rfl ?_)))))))))))))
      refine cw_exit (eo_thenX (eo_loopX (eo_block_here (eo_block_normal (eo_then (cw_region (mv 1 rfl (wl_ar rfl rfl rfl ((k+1:Nat):Int) (ai_add (a:=k) (b:=1) rfl rfl (by omega)) (by decide) (mv 1 rfl (wl_nil (eo_round (⟨wi,k+1,⟨kp2.s,kp2.A,kp2.n,kp2.c⟩,⟨ks2.s,ks2.A,ks2.n,ks2.c⟩,_⟩:World×Nat×ZC×ZC×Int) ⟨hw1,(by omega),(fun h=>by omega),(Nat.le_trans (ln_emod hm0) Lz),b_3,b_4,b_5,b_6,b_8,b_10,(zp2).cast (last_mod hdw (by omega) hj hw00),zs2⟩ (show K-(k+1)<K-k by omega) rfl ⟨rfl,rfl,rfl,rfl,rfl,rfl,rfl,rfl,rfl,trivial⟩)))))))))))
   · 
    have hfull:64*k+j=64*(k+1):=by omega
    refine cw_region (mv 1 rfl (wl_cmp rfl rfl rfl false (cb_lt_f (a:=j) (b:=64) rfl rfl (by omega)) (by decide) (mv 10 rfl (pu (v:= .bool false) rfl (by kernel_rfl) (ne_ (cw_false rfl (cw_exit (eo_thenX (eo_loopX (eo_block_here (eo_block_normal (eo_then (cw_region ?_)))))))))))))
    refine mv 1 rfl (wl_ar rfl rfl rfl ((k+1:Nat):Int) (ai_add (a:=k) (b:=1) rfl rfl (by omega)) (by decide) (mv 1 rfl (wl_nil (eo_round (⟨wi,k+1,⟨kp2.s,kp2.A,kp2.n,kp2.c⟩,⟨ks2.s,ks2.A,ks2.n,ks2.c⟩,_⟩:World×Nat×ZC×ZC×Int) ⟨hw1,(by omega),(fun _=>by rw [hfull]),(Nat.le_trans (ln_emod hm0) Lz),b_3,b_4,b_5,b_6,b_8,b_10,(zp2).cast (by rw [hfull]),zs2⟩ (show K-(k+1)<K-k by omega) rfl ⟨rfl,rfl,rfl,rfl,rfl,rfl,rfl,rfl,rfl,trivial⟩))))
  · 
   refine cw_region (mv 2 rfl (pu (v:= .int .i64 ((K:Nat):Int)) rfl (by kernel_rfl) (wl_cmp rfl rfl rfl false (cb_lt_f (a:=k) (b:=K) rfl rfl (by omega)) (by decide) (ne_ (cw_false rfl (cw_exit (eo_thenX (eo_loopX (eo_block_here (eo_then (sr (lo aggInt b_8 [.bool kp.s,.slice kp.A kp.n kp.c] rfl rfl rfl ?_))))))))))))
   have hb949:=b_6
   refine so aggInt hb949 [.bool kp.s,.slice kp.A kp.n kp.c] hw1 ge22 rfl rfl rfl rfl fun v948 hb950 u951 hw2=>(mv 1 rfl (ne_ (cw_ret (eo_ret [.agg #[.bool kp.s,.slice kp.A kp.n kp.c],I0] rfl ⟨⟨_,rfl,load_agg aggInt hb950 [.bool kp.s,.slice kp.A kp.n kp.c] rfl (bq rfl) rfl⟩,rfl,trivial⟩ ?_))))
   exact⟨_,rfl,⟨_,_,rfl,⟨_,_,_,_,rfl,((zp.updT hb949 u951)).cast (by rw [show k=K by omega,all_mod hdw hdl,hdv])⟩,rfl⟩,hw2⟩
noncomputable def exRv:List Int→List Int
 | []=> []
 | z::zs=>(exRv zs).map (· *bzu (gcdL zs.reverse) z)++ [bzv (gcdL zs.reverse) z]
theorem exRv_of:∀{l cs:List Int},ExtR l cs→cs=exRv l
 | [],cs,h=>h
 | z::zs,cs,⟨u,v,c,h1,h2,h3⟩=>by
  obtain⟨rfl,rfl⟩:=h2.eqs
  rw [h3,exRv_of h1];rfl
noncomputable def ivV (x y:Int):Int:=if y=0 then 0 else if (Int.gcd x y:Int)=1 then bzu x y else 0
def ivE (x y:Int):Int:=if y=0 then 4 else if (Int.gcd x y:Int)=1 then 0 else 6
def pmV (x y z:Int):Int:=if y<0 then 0 else if z=0 then 0 else x^y.natAbs%z
def pmE (y z:Int):Int:=if y<0 then 3 else if z=0 then 4 else 0
noncomputable def crS (x m y n:Int):Int:=x+m*((y-x).tdiv (Int.gcd m n:Int)*bzu m n)
open Classical in
noncomputable def crV (x m y n:Int):Int:=if m=0∨n=0 then 0 else if (Int.gcd m n:Int)∣y-x then crS x m y n%(Int.lcm m n:Int) else 0
open Classical in
noncomputable def crM (x m y n:Int):Int:=if m=0∨n=0 then 0 else if (Int.gcd m n:Int)∣y-x then (Int.lcm m n:Int) else 0
open Classical in
noncomputable def crE (x m y n:Int):Int:=if m=0∨n=0 then 4 else if (Int.gcd m n:Int)∣y-x then 0 else 6
theorem crS_l (x m y n:Int):m∣x-crS x m y n:=⟨-((y-x).tdiv (Int.gcd m n:Int)*bzu m n),by unfold crS;rw [Int.mul_neg];omega⟩
theorem crS_r {x m y n:Int}(hd:(Int.gcd m n:Int)∣y-x):n∣y-crS x m y n:=by
 obtain⟨t,ht⟩:=hd
 by_cases h0:(Int.gcd m n:Int)=0
 ·rw [h0,Int.zero_mul] at ht
  obtain⟨hm,hn⟩:=Int.gcd_eq_zero_iff.1 (show Int.gcd m n=0 by omega)
  subst hm;subst hn
  unfold crS;rw [Int.zero_mul];exact⟨0,by omega⟩
 ·have e1:(y-x).tdiv (Int.gcd m n:Int)=t:=by rw [ht];exact Int.mul_tdiv_cancel_left _ h0
  have e2:=(bzs m n).eq
  refine⟨bzv m n*t,?_⟩
  unfold crS
  rw [e1]
  have e3:m*(t*bzu m n)+n*(bzv m n*t)=y-x:=by rw [ht,←e2];grind
  omega
open Classical in
noncomputable def caS (rs ms:List Int):Int:=if h:∃s,∀i,i<ms.length→ms.getD i 0∣rs.getD i 0-s then Classical.choose h else 0
open Classical in
noncomputable def caE (rs ms:List Int) (n m:Nat):Int:=if n≠m then 2 else if∃i,i<n∧ms.getD i 0=0 then 4 else if∃s,∀i,i<ms.length→ms.getD i 0∣rs.getD i 0-s then 0 else 6
noncomputable def caV (rs ms:List Int) (n m:Nat):Int:=if caE rs ms n m=0 then caS rs ms%lcmL ms else 0
noncomputable def caM (rs ms:List Int) (n m:Nat):Int:=if caE rs ms n m=0 then lcmL ms else 0
theorem ln_ivV {x y:Int}{N:Nat}(hx:ln x≤N) (hy:ln y≤N):ln (ivV x y)≤N+1:=by
 unfold ivV;split
 ·exact Nat.zero_le _
 ·split
  ·exact (bzs x y).ln_u hx hy
  ·exact Nat.zero_le _
theorem ln_pmV {x y z:Int}{N:Nat}(hz:ln z≤N):ln (pmV x y z)≤N:=by
 unfold pmV;split
 ·exact Nat.zero_le _
 ·split
  ·exact Nat.zero_le _
  ·rename_i h;exact Nat.le_trans (ln_emod h) hz
theorem ln_crM {x m y n:Int}{N:Nat}(hm:ln m≤N) (hn:ln n≤N):ln (crM x m y n)≤N+N:=by
 unfold crM;split
 ·exact Nat.zero_le _
 ·split
  ·exact Nat.le_trans (ln_lcmC _ _) (Nat.add_le_add hm hn)
  ·exact Nat.zero_le _
theorem ln_crV {x m y n:Int}{N:Nat}(hm:ln m≤N) (hn:ln n≤N):ln (crV x m y n)≤N+N:=by
 unfold crV;split
 ·exact Nat.zero_le _
 ·rename_i h
  split
  ·exact Nat.le_trans (ln_emod (lcm_ne (fun e=>h (Or.inl e)) (fun e=>h (Or.inr e)))) (Nat.le_trans (ln_lcmC _ _) (Nat.add_le_add hm hn))
  ·exact Nat.zero_le _
theorem caE_ne {rs ms:List Int}{n m:Nat}(hm:ms.length=m) (h:caE rs ms n m=0):∀i,i<ms.length→ms.getD i 0≠0:=by
 unfold caE at h
 split at h
 ·omega
 ·rename_i h1
  split at h
  ·omega
  ·rename_i h2
   intro i hi e
   exact h2 ⟨i,by omega,e⟩
theorem ln_caM {rs ms:List Int}{n m:Nat}(h:(ms.map ln).sum≤1048576):ln (caM rs ms n m)≤1048577:=by
 unfold caM;split
 ·have:=ln_lcmL_le h ms.length;rwa [List.take_length] at this
 ·exact Nat.zero_le _
theorem ln_caV {rs ms:List Int}{n m:Nat}(hm:ms.length=m) (h:(ms.map ln).sum≤1048576):ln (caV rs ms n m)≤1048577:=by
 unfold caV;split
 ·rename_i h1
  have h2:=ln_lcmL_le h ms.length
  rw [List.take_length] at h2
  have h3:=lcmL_pos (caE_ne hm h1)
  exact Nat.le_trans (ln_emod (by omega)) h2
 ·exact Nat.zero_le _
theorem sum_le_of6:∀(a b:List Nat),a.length=b.length→(∀i,i<a.length→a.getD i 0≤b.getD i 0)→a.sum≤b.sum
 | [],[],_,_=>Nat.le_refl _
 | x::a,y::b,h,k=>by
  have h0:=k 0 (by simp)
  have h1:=sum_le_of6 a b (by simpa using h) (fun i hi=>by have:=k (i+1) (by simpa using hi);simpa using this)
  simp at h0
  simp only [List.sum_cons];omega
 | [],y::b,h,_=>by simp at h
 | x::a,[],h,_=>by simp at h
theorem sum_ln_le6 {zs:List Int}{w:World}{A:Option Addr}{n cap:Nat}{ms:List Nat}(h:Zl w A n cap zs ms):(zs.map ln).sum≤ms.sum:=by
 refine sum_le_of6 _ _ (by rw [List.length_map,h.len,h.mlen]) fun i hi=>?_
 rw [List.length_map,h.len] at hi
 obtain⟨p,s,B,c,_,_,hz⟩:=h.at hi
 have e:(zs.map ln).getD i 0=ln (zs.getD i 0):=by simp [List.getD_eq_getElem?_getD,List.getElem?_map,List.getElem?_eq_getElem (show i<zs.length by rw [h.len];exact hi)]
 rw [e];exact hz.ln
theorem t6_b_Ext {w:World}{b:Nat}(hb:b≤w.heap.size){sa:Bool}{Aa:Option Addr}{na ca:Nat}{x:Int}(hx:Zi w sa Aa na ca x) (la:na≤1048576){sb:Bool}{Ab:Option Addr}{nb cb:Nat}{y:Int}(hy:Zi w sb Ab nb cb y) (lb:nb≤1048576):
  Calls Tryz.prog 9 #[.agg #[.bool sa,.slice Aa na ca],.agg #[.bool sb,.slice Ab nb cb]] w (Gv w (T3 (ZR b (Int.gcd x y:Int)) (ZR b (bzu x y)) (ZR b (bzv x y)))):=by
 exact (g_bezout_Ext hb hx (Nat.le_trans la (by decide)) hy (Nat.le_trans lb (by decide))).mono fun _ _ ⟨u,v,h,v0,h1,h2,h3⟩=>⟨v0,h1,(by obtain⟨rfl,rfl⟩:=h.eqs;exact h2),h3⟩
theorem t6_b_Inverse {w:World}{b:Nat}(hb:b≤w.heap.size){sa:Bool}{Aa:Option Addr}{na ca:Nat}{x:Int}(hx:Zi w sa Aa na ca x) (la:na≤1048576){sb:Bool}{Ab:Option Addr}{nb cb:Nat}{y:Int}(hy:Zi w sb Ab nb cb y) (lb:nb≤1048576):
  Calls Tryz.prog 48 #[.agg #[.bool sa,.slice Aa na ca],.agg #[.bool sb,.slice Ab nb cb]] w (Gv w (T2 (ZR b (ivV x y)) (Is (.int .i64 (ivE x y))))):=by
 by_cases h0:y=0
 ·simp only [ivV,ivE,if_pos h0]
  exact g_bezout_Inverse_zero hb hx (Nat.le_trans la (by decide)) hy (Nat.le_trans lb (by decide)) h0
 ·by_cases hg:(Int.gcd x y:Int)=1
  ·simp only [ivV,ivE,if_neg h0,if_pos hg]
   exact (g_bezout_Inverse_ok hb hx (Nat.le_trans la (by decide)) hy (Nat.le_trans lb (by decide)) h0 hg).mono fun _ _ ⟨u,v,h,v0,h1,h2,h3⟩=>⟨v0,h1,(by obtain⟨rfl,rfl⟩:=h.eqs;exact h2),h3⟩
  ·simp only [ivV,ivE,if_neg h0,if_neg hg]
   exact g_bezout_Inverse_none hb hx (Nat.le_trans la (by decide)) hy (Nat.le_trans lb (by decide)) h0 hg
theorem t6_b_PowMod {w:World}{b:Nat}(hb:b≤w.heap.size){sa:Bool}{Aa:Option Addr}{na ca:Nat}{x:Int}(hx:Zi w sa Aa na ca x) (la:na≤1048576){sb:Bool}{Ab:Option Addr}{nb cb:Nat}{y:Int}(hy:Zi w sb Ab nb cb y) (lb:nb≤1048576){sd:Bool}{Ad:Option Addr}{nd cd:Nat}{z:Int}(hz:Zi w sd Ad nd cd z) (ld:nd≤1048576):
  Calls Tryz.prog 49 #[.agg #[.bool sa,.slice Aa na ca],.agg #[.bool sb,.slice Ab nb cb],.agg #[.bool sd,.slice Ad nd cd]] w (Gv w (T2 (ZR b (pmV x y z)) (Is (.int .i64 (pmE y z))))):=by
 by_cases h0:y<0
 ·simp only [pmV,pmE,if_pos h0]
  exact g_bezout_PowMod_neg hb hx (Nat.le_trans la (by decide)) hy (Nat.le_trans lb (by decide)) hz (Nat.le_trans ld (by decide)) h0
 ·by_cases h1:z=0
  ·simp only [pmV,pmE,if_neg h0,if_pos h1]
   exact g_bezout_PowMod_zero hb hx (Nat.le_trans la (by decide)) hy (Nat.le_trans lb (by decide)) hz (Nat.le_trans ld (by decide)) (by omega) h1
  ·simp only [pmV,pmE,if_neg h0,if_neg h1]
   exact g_bezout_PowMod_ok hb hx (Nat.le_trans la (by decide)) hy (Nat.le_trans lb (by decide)) hz (Nat.le_trans ld (by decide)) (by omega) h1
theorem t6_b_Crt {w:World}{b:Nat}(hb:b≤w.heap.size){sa:Bool}{Aa:Option Addr}{na ca:Nat}{x:Int}(hx:Zi w sa Aa na ca x) (la:na≤1048576){sb:Bool}{Ab:Option Addr}{nb cb:Nat}{y:Int}(hy:Zi w sb Ab nb cb y) (lb:nb≤1048576){sd:Bool}{Ad:Option Addr}{nd cd:Nat}{z:Int}(hz:Zi w sd Ad nd cd z) (ld:nd≤1048576){se:Bool}{Ae:Option Addr}{ne ce:Nat}{u:Int}(hu:Zi w se Ae ne ce u) (le:ne≤1048576):
  Calls Tryz.prog 50 #[.agg #[.bool sa,.slice Aa na ca],.agg #[.bool sb,.slice Ab nb cb],.agg #[.bool sd,.slice Ad nd cd],.agg #[.bool se,.slice Ae ne ce]] w (Gv w (T3 (ZR b (crV x y z u)) (ZR b (crM x y z u)) (Is (.int .i64 (crE x y z u))))):=by
 by_cases h0:y=0∨u=0
 ·simp only [crV,crM,crE,if_pos h0]
  exact g_bezout_Crt_zero hb hx (Nat.le_trans la (by decide)) hy (Nat.le_trans lb (by decide)) hz (Nat.le_trans ld (by decide)) hu (Nat.le_trans le (by decide)) h0
 ·have h1:y≠0:=fun e=>h0 (Or.inl e)
  have h2:u≠0:=fun e=>h0 (Or.inr e)
  by_cases hd:(Int.gcd y u:Int)∣z-x
  ·simp only [crV,crM,crE,if_neg h0,if_pos hd]
   exact g_bezout_Crt_ok hb hx (Nat.le_trans la (by decide)) hy (Nat.le_trans lb (by decide)) hz (Nat.le_trans ld (by decide)) hu (Nat.le_trans le (by decide)) h1 h2 (crS_l x y z u) (crS_r hd)
  ·simp only [crV,crM,crE,if_neg h0,if_neg hd]
   exact g_bezout_Crt_none hb hx (Nat.le_trans la (by decide)) hy (Nat.le_trans lb (by decide)) hz (Nat.le_trans ld (by decide)) hu (Nat.le_trans le (by decide)) h1 h2 hd
theorem t6_b_GcdAll {w:World}{b:Nat}(hb:b≤w.heap.size){A:Option Addr}{n cap:Nat}{zs:List Int}{ms:List Nat}(hl:Zl w A n cap zs ms) (hn:n≤1048576) (hs:ms.sum≤1048576):
  Calls Tryz.prog 45 #[.slice A n cap] w (Gv w (ZR b (gcdL zs))):=by
 exact g_bezout_GcdAll hb hl (by omega) (fun i=>Nat.le_trans (getD_le_sum _ _) (by omega))
theorem t6_b_ExtAll {w:World}{b b2:Nat}(hb:b≤w.heap.size) (hb2:b2≤w.heap.size){A:Option Addr}{n cap:Nat}{zs:List Int}{ms:List Nat}(hl:Zl w A n cap zs ms) (hn:n≤1048576) (hs:ms.sum≤1048576):
  Calls Tryz.prog 47 #[.slice A n cap] w (Gv w (T2 (ZR b (gcdL zs)) (LR 8388608 b b2 n (exRv zs.reverse)))):=by
 exact (g_bezout_ExtAll hb hb2 hl hn (fun i=>Nat.le_trans (getD_le_sum _ _) hs) (Nat.le_trans (sum_ln_le6 hl) hs)).mono fun _ _ ⟨cs,h,h1⟩=>by rw [←exRv_of h.ex];exact h1
theorem t6_b_CrtAll {w:World}{b:Nat}(hb:b≤w.heap.size){A B:Option Addr}{n m cap cap2:Nat}{rs zs:List Int}{ks js:List Nat}(hr:Zl w A n cap rs ks) (hm:Zl w B m cap2 zs js) (hn:n≤1048576) (hn2:m≤1048576) (hks:ks.sum≤1048576) (hjs:js.sum≤1048576):
  Calls Tryz.prog 51 #[.slice A n cap,.slice B m cap2] w (Gv w (T3 (ZR b (caV rs zs n m)) (ZR b (caM rs zs n m)) (Is (.int .i64 (caE rs zs n m))))):=by
 by_cases h0:n=m
 ·subst h0
  by_cases h1:∃i,i<n∧zs.getD i 0=0
  ·have he:caE rs zs n n=4:=by unfold caE;rw [if_neg (by simp),if_pos h1]
   simp only [caV,caM,he]
   obtain⟨i,hi⟩:=h1
   exact g_bezout_CrtAll_zero hb hr hm (by omega) (fun i=>Nat.le_trans (getD_le_sum _ _) (by omega)) (fun i=>Nat.le_trans (getD_le_sum _ _) (by omega)) (Nat.le_trans (sum_ln_le6 hm) hjs) hi
  ·have h2:∀i,i<zs.length→zs.getD i 0≠0:=fun i hi e=>h1 ⟨i,by rw [←hm.len];exact hi,e⟩
   by_cases h3:∃s,∀i,i<zs.length→zs.getD i 0∣rs.getD i 0-s
   ·have he:caE rs zs n n=0:=by unfold caE;rw [if_neg (by simp),if_neg h1,if_pos h3]
    have hs:caS rs zs=Classical.choose h3:=by unfold caS;rw [dif_pos h3]
    simp only [caV,caM,he,if_true,hs]
    exact g_bezout_CrtAll_ok hb hr hm (by omega) (fun i=>Nat.le_trans (getD_le_sum _ _) (by omega)) (fun i=>Nat.le_trans (getD_le_sum _ _) (by omega)) (Nat.le_trans (sum_ln_le6 hm) hjs) h2 (Classical.choose_spec h3)
   ·have he:caE rs zs n n=6:=by unfold caE;rw [if_neg (by simp),if_neg h1,if_neg h3]
    simp only [caV,caM,he]
    exact g_bezout_CrtAll_none hb hr hm (by omega) (fun i=>Nat.le_trans (getD_le_sum _ _) (by omega)) (fun i=>Nat.le_trans (getD_le_sum _ _) (by omega)) (Nat.le_trans (sum_ln_le6 hm) hjs) h2 (fun⟨s,k⟩=>h3 ⟨s,fun i hi=>k i (by rw [←hm.len];exact hi)⟩)
 ·have he:caE rs zs n m=2:=by unfold caE;rw [if_pos h0]
  simp only [caV,caM,he]
  exact g_bezout_CrtAll_fit hb h0
theorem t6_r_Ext {w:World}{b:Nat}(hb:b≤w.heap.size){sa:Bool}{Aa:Option Addr}{na ca:Nat}{x:Int}(hx:Zi w sa Aa na ca x) (la:na≤1048576){sb:Bool}{Ab:Option Addr}{nb cb:Nat}{y:Int}(hy:Zi w sb Ab nb cb y) (lb:nb≤1048576):
  Calls Tryz.prog 38 #[.agg #[.bool sa,.slice Aa na ca],.agg #[.bool sb,.slice Ab nb cb]] w (Gv w (T3 (ZR b (Int.gcd x y:Int)) (ZR b (bzu x y)) (ZR b (bzv x y)))):=by
 exact (g_ref6_Ext hb hx (Nat.le_trans la (by decide)) hy (Nat.le_trans lb (by decide))).mono fun _ _ ⟨u,v,h,v0,h1,h2,h3⟩=>⟨v0,h1,(by obtain⟨rfl,rfl⟩:=h.eqs;exact h2),h3⟩
theorem t6_r_Inverse {w:World}{b:Nat}(hb:b≤w.heap.size){sa:Bool}{Aa:Option Addr}{na ca:Nat}{x:Int}(hx:Zi w sa Aa na ca x) (la:na≤1048576){sb:Bool}{Ab:Option Addr}{nb cb:Nat}{y:Int}(hy:Zi w sb Ab nb cb y) (lb:nb≤1048576):
  Calls Tryz.prog 40 #[.agg #[.bool sa,.slice Aa na ca],.agg #[.bool sb,.slice Ab nb cb]] w (Gv w (T2 (ZR b (ivV x y)) (Is (.int .i64 (ivE x y))))):=by
 by_cases h0:y=0
 ·simp only [ivV,ivE,if_pos h0]
  exact g_ref6_Inverse_zero hb hx (Nat.le_trans la (by decide)) hy (Nat.le_trans lb (by decide)) h0
 ·by_cases hg:(Int.gcd x y:Int)=1
  ·simp only [ivV,ivE,if_neg h0,if_pos hg]
   exact (g_ref6_Inverse_ok hb hx (Nat.le_trans la (by decide)) hy (Nat.le_trans lb (by decide)) h0 hg).mono fun _ _ ⟨u,v,h,v0,h1,h2,h3⟩=>⟨v0,h1,(by obtain⟨rfl,rfl⟩:=h.eqs;exact h2),h3⟩
  ·simp only [ivV,ivE,if_neg h0,if_neg hg]
   exact g_ref6_Inverse_none hb hx (Nat.le_trans la (by decide)) hy (Nat.le_trans lb (by decide)) h0 hg
theorem t6_r_PowMod {w:World}{b:Nat}(hb:b≤w.heap.size){sa:Bool}{Aa:Option Addr}{na ca:Nat}{x:Int}(hx:Zi w sa Aa na ca x) (la:na≤1048576){sb:Bool}{Ab:Option Addr}{nb cb:Nat}{y:Int}(hy:Zi w sb Ab nb cb y) (lb:nb≤1048576){sd:Bool}{Ad:Option Addr}{nd cd:Nat}{z:Int}(hz:Zi w sd Ad nd cd z) (ld:nd≤1048576):
  Calls Tryz.prog 41 #[.agg #[.bool sa,.slice Aa na ca],.agg #[.bool sb,.slice Ab nb cb],.agg #[.bool sd,.slice Ad nd cd]] w (Gv w (T2 (ZR b (pmV x y z)) (Is (.int .i64 (pmE y z))))):=by
 by_cases h0:y<0
 ·simp only [pmV,pmE,if_pos h0]
  exact g_ref6_PowMod_neg hb hx (Nat.le_trans la (by decide)) hy (Nat.le_trans lb (by decide)) hz (Nat.le_trans ld (by decide)) h0
 ·by_cases h1:z=0
  ·simp only [pmV,pmE,if_neg h0,if_pos h1]
   exact g_ref6_PowMod_zero hb hx (Nat.le_trans la (by decide)) hy (Nat.le_trans lb (by decide)) hz (Nat.le_trans ld (by decide)) (by omega) h1
  ·simp only [pmV,pmE,if_neg h0,if_neg h1]
   exact g_ref6_PowMod_ok hb hx (Nat.le_trans la (by decide)) hy (Nat.le_trans lb (by decide)) hz (Nat.le_trans ld (by decide)) (by omega) h1
theorem t6_r_Crt {w:World}{b:Nat}(hb:b≤w.heap.size){sa:Bool}{Aa:Option Addr}{na ca:Nat}{x:Int}(hx:Zi w sa Aa na ca x) (la:na≤1048576){sb:Bool}{Ab:Option Addr}{nb cb:Nat}{y:Int}(hy:Zi w sb Ab nb cb y) (lb:nb≤1048576){sd:Bool}{Ad:Option Addr}{nd cd:Nat}{z:Int}(hz:Zi w sd Ad nd cd z) (ld:nd≤1048576){se:Bool}{Ae:Option Addr}{ne ce:Nat}{u:Int}(hu:Zi w se Ae ne ce u) (le:ne≤1048576):
  Calls Tryz.prog 42 #[.agg #[.bool sa,.slice Aa na ca],.agg #[.bool sb,.slice Ab nb cb],.agg #[.bool sd,.slice Ad nd cd],.agg #[.bool se,.slice Ae ne ce]] w (Gv w (T3 (ZR b (crV x y z u)) (ZR b (crM x y z u)) (Is (.int .i64 (crE x y z u))))):=by
 by_cases h0:y=0∨u=0
 ·simp only [crV,crM,crE,if_pos h0]
  exact g_ref6_Crt_zero hb hx (Nat.le_trans la (by decide)) hy (Nat.le_trans lb (by decide)) hz (Nat.le_trans ld (by decide)) hu (Nat.le_trans le (by decide)) h0
 ·have h1:y≠0:=fun e=>h0 (Or.inl e)
  have h2:u≠0:=fun e=>h0 (Or.inr e)
  by_cases hd:(Int.gcd y u:Int)∣z-x
  ·simp only [crV,crM,crE,if_neg h0,if_pos hd]
   exact g_ref6_Crt_ok hb hx (Nat.le_trans la (by decide)) hy (Nat.le_trans lb (by decide)) hz (Nat.le_trans ld (by decide)) hu (Nat.le_trans le (by decide)) h1 h2 (crS_l x y z u) (crS_r hd)
  ·simp only [crV,crM,crE,if_neg h0,if_neg hd]
   exact g_ref6_Crt_none hb hx (Nat.le_trans la (by decide)) hy (Nat.le_trans lb (by decide)) hz (Nat.le_trans ld (by decide)) hu (Nat.le_trans le (by decide)) h1 h2 hd
theorem t6_r_GcdAll {w:World}{b:Nat}(hb:b≤w.heap.size){A:Option Addr}{n cap:Nat}{zs:List Int}{ms:List Nat}(hl:Zl w A n cap zs ms) (hn:n≤1048576) (hs:ms.sum≤1048576):
  Calls Tryz.prog 36 #[.slice A n cap] w (Gv w (ZR b (gcdL zs))):=by
 exact g_ref6_GcdAll hb hl (by omega) (fun i=>Nat.le_trans (getD_le_sum _ _) (by omega))
theorem t6_r_ExtAll {w:World}{b b2:Nat}(hb:b≤w.heap.size) (hb2:b2≤w.heap.size){A:Option Addr}{n cap:Nat}{zs:List Int}{ms:List Nat}(hl:Zl w A n cap zs ms) (hn:n≤1048576) (hs:ms.sum≤1048576):
  Calls Tryz.prog 39 #[.slice A n cap] w (Gv w (T2 (ZR b (gcdL zs)) (LR 8388608 b b2 n (exRv zs.reverse)))):=by
 exact (g_ref6_ExtAll hb hb2 hl hn (fun i=>Nat.le_trans (getD_le_sum _ _) hs) (Nat.le_trans (sum_ln_le6 hl) hs)).mono fun _ _ ⟨cs,h,h1⟩=>by rw [←exRv_of h.ex];exact h1
theorem t6_r_CrtAll {w:World}{b:Nat}(hb:b≤w.heap.size){A B:Option Addr}{n m cap cap2:Nat}{rs zs:List Int}{ks js:List Nat}(hr:Zl w A n cap rs ks) (hm:Zl w B m cap2 zs js) (hn:n≤1048576) (hn2:m≤1048576) (hks:ks.sum≤1048576) (hjs:js.sum≤1048576):
  Calls Tryz.prog 43 #[.slice A n cap,.slice B m cap2] w (Gv w (T3 (ZR b (caV rs zs n m)) (ZR b (caM rs zs n m)) (Is (.int .i64 (caE rs zs n m))))):=by
 by_cases h0:n=m
 ·subst h0
  by_cases h1:∃i,i<n∧zs.getD i 0=0
  ·have he:caE rs zs n n=4:=by unfold caE;rw [if_neg (by simp),if_pos h1]
   simp only [caV,caM,he]
   obtain⟨i,hi⟩:=h1
   exact g_ref6_CrtAll_zero hb hr hm (by omega) (fun i=>Nat.le_trans (getD_le_sum _ _) (by omega)) (fun i=>Nat.le_trans (getD_le_sum _ _) (by omega)) (Nat.le_trans (sum_ln_le6 hm) hjs) hi
  ·have h2:∀i,i<zs.length→zs.getD i 0≠0:=fun i hi e=>h1 ⟨i,by rw [←hm.len];exact hi,e⟩
   by_cases h3:∃s,∀i,i<zs.length→zs.getD i 0∣rs.getD i 0-s
   ·have he:caE rs zs n n=0:=by unfold caE;rw [if_neg (by simp),if_neg h1,if_pos h3]
    have hs:caS rs zs=Classical.choose h3:=by unfold caS;rw [dif_pos h3]
    simp only [caV,caM,he,if_true,hs]
    exact g_ref6_CrtAll_ok hb hr hm (by omega) (fun i=>Nat.le_trans (getD_le_sum _ _) (by omega)) (fun i=>Nat.le_trans (getD_le_sum _ _) (by omega)) (Nat.le_trans (sum_ln_le6 hm) hjs) h2 (Classical.choose_spec h3)
   ·have he:caE rs zs n n=6:=by unfold caE;rw [if_neg (by simp),if_neg h1,if_neg h3]
    simp only [caV,caM,he]
    exact g_ref6_CrtAll_none hb hr hm (by omega) (fun i=>Nat.le_trans (getD_le_sum _ _) (by omega)) (fun i=>Nat.le_trans (getD_le_sum _ _) (by omega)) (Nat.le_trans (sum_ln_le6 hm) hjs) h2 (fun⟨s,k⟩=>h3 ⟨s,fun i hi=>k i (by rw [←hm.len];exact hi)⟩)
 ·have he:caE rs zs n m=2:=by unfold caE;rw [if_pos h0]
  simp only [caV,caM,he]
  exact g_ref6_CrtAll_fit hb h0
theorem bool_of {w:World}{c:Bool}(e:Ending) (w':World) (h:Gv w (Is (.bool c)) e w'):BoolP c w e w':=by
 obtain⟨v,rfl,h1,h2⟩:=h
 exact⟨by rw [h1],h2⟩
theorem ln_w64 {x:Nat}(h:x≤18446744073709551615):ln ((x:Nat):Int)≤1:=ln_w1 (by omega) (by omega)
theorem ZO.zr {b x:Nat}(hx:x≤18446744073709551615) (h0:x≠0) (v:Value) (w:World) (h:ZO b x v w):ZR b (x:Int) v w:=by
 obtain⟨A,rfl,ho⟩:=h
 exact⟨_,_,_,_,rfl,Zr_nat (len1 hx h0) (own1_wd ho hx h0)⟩
theorem ZO.imp {b b' x:Nat}(hb:b≤b') (v:Value) (w:World) (h:ZO b' x v w):ZO b x v w:=by
 obtain⟨A,rfl,ho⟩:=h
 exact⟨A,rfl,ho.mono hb⟩
theorem g_same {w:World}{b b':Nat}{A B:Option Addr}{n c m d k:Nat}(hx:Own w b 38 1 A n c ((wd k).map W64)) (hl:n≤1099511627776) (hy:Own w b' 38 1 B m d ((wd k).map W64)) (hl':m≤1099511627776):
  Calls Tryz.prog 34 #[.slice A n c,.slice B m d] w (Gv w (Is (.bool true))):=by
 have h:=ref1_Same (hx.rd (Wf_wd _)) hl (hy.rd (Wf_wd _)) hl'
 rw [decide_eq_true rfl] at h
 exact h.mono gbool
theorem wakes_nums {u v:Int}(h:Bez 12 18 u v):(Int.gcd 12 18:Int)=6∧u=2∧v= -1:=by
 have h1:=h.eq
 have h2:=h.lo (by decide)
 have h3:=h.hi (by decide)
 have e:(Int.gcd 12 18:Int)=6:=by decide+kernel
 rw [e] at h1 h3
 have e2:Int.natAbs 18=18:=rfl
 rw [e2] at h3
 refine⟨e,?_,?_⟩ <;> omega
set_option maxHeartbeats 4000000 in
theorem g_law6_ofI {w:World}{x:Nat}(hx:x≤18446744073709551615):
    Calls Tryz.prog 10 #[.int .u64 ((x:Nat):Int)] w (Gv w (ZO w.heap.size (x))):=by
 refine sx_enter Tryz.func10 rfl (n:=6) rfl (bq rfl) (args:= [.int .u64 ((x:Nat):Int)]) (cw_keep [(0,.int .u64 ((x:Nat):Int))] ⟨rfl,trivial⟩ (sr (al [F0,S0] (Ext.refl w) (fun _=>by kernel_rfl) rfl fun g1 v2 hb4 ge5 e3 hw1=>(ne_ (sr (mv 1 rfl (wl_bslice rfl rfl (by decide) (k:=1) (e:=38) [.int .u64 ((x:Nat):Int)] (fun _=>by kernel_rfl) fun g6 v7 nb8=>?_)))))))
 have o9:=O1.mk_ (x:=x) (b:=w.heap.size) nb8 hw1.size
 have e10:=nb8.ext
 have hw2:=hw1.trans e10
 refine pu (v:= .agg #[F0,.slice (some ⟨g6,0,none⟩) 1 1]) rfl (by kernel_rfl) ?_
 have hb14:=(hb4.ext e10)
 refine so aggInt hb14 [F0,.slice (some ⟨g6,0,none⟩) 1 1] hw2 ge5 rfl rfl rfl rfl fun v13 hb15 u16 hw3=>(ne_ (cw_ret (eo_ret [.agg #[F0,.slice (some ⟨g6,0,none⟩) 1 1]] rfl ⟨⟨_,rfl,load_agg aggInt hb15 [F0,.slice (some ⟨g6,0,none⟩) 1 1] rfl (bq rfl) rfl⟩,trivial⟩ ?_)))
 exact⟨_,rfl,⟨_,rfl,(o9.updT hb14 (by decide) u16)⟩,hw3⟩
theorem g_law6_of {w:World}{x:Nat}{b:Nat}(hb:b≤w.heap.size) (hx:x≤18446744073709551615):
  Calls Tryz.prog 10 #[.int .u64 ((x:Nat):Int)] w (Gv w (ZO b (x))):=(g_law6_ofI hx).mono (Gv.imp (ZO.imp hb))
set_option maxHeartbeats 4000000 in
theorem g_law6_alike {w:World}{b1 b2:Nat}{sa sb:Bool}{Aa Ab:Option Addr}{na ca nb cb:Nat}{x:Int}(ha:Zr w b1 sa Aa na ca x) (la:na≤1099511627776) (hb:Zr w b2 sb Ab nb cb x) (lb:nb≤1099511627776):
    Calls Tryz.prog 11 #[.agg #[.bool sa,.slice Aa na ca],.agg #[.bool sb,.slice Ab nb cb]] w (Gv w (Is (.bool true))):=by
 refine sx_enter Tryz.func11 rfl (n:=19) rfl (bq rfl) (args:= [.agg #[.bool sa,.slice Aa na ca],.agg #[.bool sb,.slice Ab nb cb]]) (cw_keep [(0,.agg #[.bool sa,.slice Aa na ca]),(1,.agg #[.bool sb,.slice Ab nb cb])] ⟨rfl,rfl,trivial⟩ (sr (bx [.bool sa,.slice Aa na ca] (Ext.refl w) rfl rfl rfl fun g1 v2 hb4 ge5 e3 hw1=>(bxq [.bool sb,.slice Ab nb cb] hw1 hb4.lt rfl rfl rfl fun g6 v7 hb9 ge10 q11 e8 hw2=>(mv 1 rfl (ne_ (sr (pf g1 1 rfl (by kernel_rfl) (wl_load rfl rfl (load_cell cellWords (hb4.ext e8) rfl) (by decide) (pf g6 1 rfl (by kernel_rfl) (wl_load rfl rfl (load_cell cellWords hb9 rfl) (by decide) (cl (vs:= [.slice Aa na ca,.slice Ab nb cb]) hw2 (g_same (ha.ext (e3.trans e8)).own la (hb.ext (e3.trans e8)).own lb) rfl (by kernel_rfl) fun xr14 v12 r14 e13 hw3=>?_))))))))))))
 obtain rfl:=r14
 refine mv 1 rfl (ne_ (sr (mv 2 rfl (pf g1 0 rfl (by kernel_rfl) (wl_load rfl rfl (load_cell cellBool (hb4.ext (e8.trans e13)) rfl) (by decide) (pf g6 0 rfl (by kernel_rfl) (wl_load rfl rfl (load_cell cellBool (hb9.ext e13) rfl) (by decide) (pu (v:= .bool (sa==sb)) rfl (by kernel_rfl) (pu (v:= .bool (sa==sb)) rfl (by kernel_rfl) (mv 1 rfl (ne_ (cw_ret (eo_ret [.bool (sa==sb)] rfl ⟨rfl,trivial⟩ ?_)))))))))))))
 exact⟨_,rfl,(show Value.bool (sa==sb)= .bool true by rw [ha.sgn,hb.sgn,beq_self_eq_true]),hw3⟩
set_option maxHeartbeats 4000000 in
theorem g_law6_wakes (w:World):
    Calls Tryz.prog 5 #[] w (Gv w (Is (.bool true))):=by
 refine sx_enter Tryz.func5 rfl (n:=25) rfl (bq rfl) (args:= []) (cw_keep [] trivial (sr (mv 1 rfl (ne_ (sr (cl (vs:= [.int .u64 12]) (Ext.refl w) ((g_law6_of (Ext.refl w).size (by decide:12≤18446744073709551615)).mono (Gv.imp (ZO.zr (by decide:12≤18446744073709551615) (by decide:12≠0)))) rfl (by kernel_rfl) fun xr3 v1 r3 e2 hw1=>?_))))))
 obtain⟨s4,A4,n4,c4,rfl,z4⟩:=r3
 refine cl (vs:= [.int .u64 18]) hw1 ((g_law6_of hw1.size (by decide:18≤18446744073709551615)).mono (Gv.imp (ZO.zr (by decide:18≤18446744073709551615) (by decide:18≠0)))) rfl (by kernel_rfl) fun xr7 v5 r7 e6 hw2=>?_
 obtain⟨s8,A8,n8,c8,rfl,z8⟩:=r7
 refine wl_call rfl rfl (vs:= [.agg #[.bool s4,.slice A4 n4 c4],.agg #[.bool s8,.slice A8 n8 c8]]) (by kernel_rfl) (by decide) (g_bezout_Ext hw2.size (z4.ext e6).zi (z4.le (Nat.le_trans (ln_w64 (by decide:12≤18446744073709551615)) (by decide))) z8.zi (z8.le (Nat.le_trans (ln_w64 (by decide:18≤18446744073709551615)) (by decide)))) ?_
 rintro _ v9 ⟨u12,v13,p14,xr11,rfl,r11,e10⟩
 have L15:ln ((Int.gcd ((12:Nat):Int) ((18:Nat):Int):Int))≤1:=Nat.le_trans (ln_gcd _ _) (Nat.max_le.2 ⟨Nat.le_trans (ln_w64 (by decide:12≤18446744073709551615)) (by decide),Nat.le_trans (ln_w64 (by decide:18≤18446744073709551615)) (by decide)⟩)
 have L16:ln (u12)≤2:=(p14.ln_u (ln_w64 (by decide:12≤18446744073709551615)) (ln_w64 (by decide:18≤18446744073709551615)))
 have L17:ln (v13)≤2:=(p14.ln_v (ln_w64 (by decide:12≤18446744073709551615)) (ln_w64 (by decide:18≤18446744073709551615)))
 refine ret_intro ?_
 have hw3:=hw2.trans e10
 obtain⟨_,_,_,rfl,⟨s19,A19,n19,c19,rfl,z19⟩,⟨s20,A20,n20,c20,rfl,z20⟩,⟨s21,A21,n21,c21,rfl,z21⟩⟩:=r11
 refine mv 1 rfl (pu (v:= .agg #[.bool s19,.slice A19 n19 c19]) rfl (by kernel_rfl) (pu (v:= .agg #[.bool s20,.slice A20 n20 c20]) rfl (by kernel_rfl) (pu (v:= .agg #[.bool s21,.slice A21 n21 c21]) rfl (by kernel_rfl) (al [F0,S0] hw3 (fun _=>by kernel_rfl) rfl fun g22 v23 hb25 ge26 e24 hw4=>(alq [F0,S0] hw4 hb25.lt (fun _=>by kernel_rfl) rfl fun g27 v28 hb30 ge31 q32 e29 hw5=>(alq [F0,S0] hw5 hb30.lt (fun _=>by kernel_rfl) rfl fun g33 v34 hb36 ge37 q38 e35 hw6=>?_))))))
 have hb40:=(hb25.ext (e29.trans e35))
 refine so aggInt hb40 [.bool s19,.slice A19 n19 c19] hw6 ge26 rfl rfl rfl rfl fun v39 hb41 u42 hw7=>?_
 have hb45:=((hb30.ext e35).updN u42 (by omega))
 refine so aggInt hb45 [.bool s20,.slice A20 n20 c20] hw7 ge31 rfl rfl rfl rfl fun v44 hb46 u47 hw8=>?_
 have hb50:=((hb36.updN u42 (by omega)).updN u47 (by omega))
 refine so aggInt hb50 [.bool s21,.slice A21 n21 c21] hw8 ge37 rfl rfl rfl rfl fun v49 hb51 u52 hw9=>(ne_ (cw_seq ?_))
 obtain⟨wk1,wk2,wk3⟩:=wakes_nums p14
 refine cw_draw mix 14 [] [Is (.agg #[.bool s19,.slice A19 n19 c19]),ZR w.heap.size (((6:Nat):Int)),Is (.bool true),Is (.bool true),Is (.agg #[.bool s20,.slice A20 n20 c20]),ZR w.heap.size (((2:Nat):Int)),Is (.bool true),Is (.bool true),Is (.bool true),Is (.agg #[.bool s21,.slice A21 n21 c21]),WR w.heap.size (1),ZR w.heap.size (-((1:Nat):Int)),Is (.bool true),Is (.bool true)] [[],[],[0,1],[2],[3],[3],[3,4,5],[3,6],[7],[8],[8],[8,10],[8,9,11],[8,12]] [[],[],[0,1],[0,1,2],[0,1,2,3],[0,1,2,3],[0,1,2,3,4,5],[0,1,2,3,4,5,6],[0,1,2,3,4,5,6,7],[0,1,2,3,4,5,6,7,8],[0,1,2,3,4,5,6,7,8],[0,1,2,3,4,5,6,7,8,10],[0,1,2,3,4,5,6,7,8,9,10,11],[0,1,2,3,4,5,6,7,8,9,10,11,12],[0,1,2,3,4,5,6,7,8,9,10,11,12,13]] rfl
  (obs_cons rfl rfl (hob rfl rfl ?_) (obs_cons rfl rfl (hob rfl rfl ?_) (obs_cons rfl rfl (hob rfl rfl ?_) (obs_cons rfl rfl (hob rfl rfl ?_) (obs_cons rfl rfl (hob rfl rfl ?_) (obs_cons rfl rfl (hob rfl rfl ?_) (obs_cons rfl rfl (hob rfl rfl ?_) (obs_cons rfl rfl (hob rfl rfl ?_) (obs_cons rfl rfl (hob rfl rfl ?_) (obs_cons rfl rfl (hob rfl rfl ?_) (obs_cons rfl rfl (hob rfl rfl ?_) (obs_cons rfl rfl (hob rfl rfl ?_) (obs_cons rfl rfl (hob rfl rfl ?_) (obs_cons rfl rfl (hob rfl rfl ?_) obs_nil)))))))))))))) ?_
 · 
  exact fun _ e59=>deps_nil (lo aggInt (((hb41.updN u47 (by omega)).updN u52 (by omega)).ext e59) [.bool s19,.slice A19 n19 c19] rfl rfl rfl (pi_done rfl (Ext.refl _) rfl))
 · 
  intro v60 e61
  have hw10:=hw9.trans e61
  refine deps_nil (cl (vs:= [.int .u64 6]) hw10 ((g_law6_of hw10.size (by decide:6≤18446744073709551615)).mono (Gv.imp (ZO.zr (by decide:6≤18446744073709551615) (by decide:6≠0)))) rfl (by kernel_rfl) fun xr64 v62 r64 e63 hw11=>?_)
  obtain⟨s65,A65,n65,c65,rfl,z65⟩:=r64
  exact pi_done rfl e63 ⟨_,_,_,_,rfl,z65⟩
 · 
  intro v66 e67
  have hw10:=hw9.trans e67
  refine dk rfl rfl (deps_cons rfl rfl fun x73 y74 h75 e76 f77=>?_)
  obtain⟨s78,A78,n78,c78,rfl,z78⟩:=h75
  have z78:=z78.ext f77
  refine deps_nil (cl (vs:= [.agg #[.bool s19,.slice A19 n19 c19],.agg #[.bool s78,.slice A78 n78 c78]]) hw10 (g_law6_alike (((((z19.ext (e24.trans (e29.trans e35))).updT hb40 u42).updT hb45 u47).updT hb50 u52).ext e67) (z19.le (lx_ L15 rfl)) (z78.cast (by first | exact wk1.symm | exact wk2.symm | exact wk3.symm)) (z78.le (Nat.le_trans (ln_w64 (by decide:6≤18446744073709551615)) (by decide)))) rfl (by kernel_rfl) fun xr81 v79 r81 e80 hw11=>?_)
  obtain rfl:=r81
  exact pi_done rfl e80 rfl
 · 
  exact fun _ _=>dk rfl rfl (deps_nil (mv 1 rfl (pi_done rfl (Ext.refl _) rfl)))
 · 
  exact fun _ e90=>dk rfl rfl (deps_nil (lo aggInt ((hb46.updN u52 (by omega)).ext e90) [.bool s20,.slice A20 n20 c20] rfl rfl rfl (pi_done rfl (Ext.refl _) rfl)))
 · 
  intro v96 e97
  have hw10:=hw9.trans e97
  refine dk rfl rfl (deps_nil (cl (vs:= [.int .u64 2]) hw10 ((g_law6_of hw10.size (by decide:2≤18446744073709551615)).mono (Gv.imp (ZO.zr (by decide:2≤18446744073709551615) (by decide:2≠0)))) rfl (by kernel_rfl) fun xr105 v103 r105 e104 hw11=>?_))
  obtain⟨s106,A106,n106,c106,rfl,z106⟩:=r105
  exact pi_done rfl e104 ⟨_,_,_,_,rfl,z106⟩
 · 
  intro v107 e108
  have hw10:=hw9.trans e108
  refine dk rfl rfl (dk rfl rfl (deps_cons rfl rfl fun x119 y120 h121 e122 f123=>?_))
  obtain⟨s124,A124,n124,c124,rfl,z124⟩:=h121
  have z124:=z124.ext f123
  refine deps_nil (cl (vs:= [.agg #[.bool s20,.slice A20 n20 c20],.agg #[.bool s124,.slice A124 n124 c124]]) hw10 (g_law6_alike (((((z20.ext (e24.trans (e29.trans e35))).updT hb40 u42).updT hb45 u47).updT hb50 u52).ext e108) (z20.le (lx_ L16 rfl)) (z124.cast (by first | exact wk1.symm | exact wk2.symm | exact wk3.symm)) (z124.le (Nat.le_trans (ln_w64 (by decide:2≤18446744073709551615)) (by decide)))) rfl (by kernel_rfl) fun xr127 v125 r127 e126 hw11=>?_)
  obtain rfl:=r127
  exact pi_done rfl e126 rfl
 · 
  exact fun _ _=>dk rfl rfl (dk rfl rfl (deps_nil (pu (v:= .bool true) rfl (by kernel_rfl) (pi_done rfl (Ext.refl _) rfl))))
 · 
  exact fun _ _=>dk rfl rfl (deps_nil (mv 1 rfl (pi_done rfl (Ext.refl _) rfl)))
 · 
  exact fun _ e148=>dk rfl rfl (deps_nil (lo aggInt (hb51.ext e148) [.bool s21,.slice A21 n21 c21] rfl rfl rfl (pi_done rfl (Ext.refl _) rfl)))
 · 
  intro v154 e155
  have hw10:=hw9.trans e155
  refine dk rfl rfl (deps_nil (wl_bslice rfl rfl (by decide) (k:=1) (e:=38) [.int .u64 1] (fun _=>by kernel_rfl) fun g161 v162 nb163=>?_))
  have o164:=O1.mk_ (x:=1) (b:=w.heap.size) nb163 hw10.size
  have e165:=nb163.ext
  have hw11:=hw10.trans e165
  have o167:=own1_wd o164 (by decide:1≤18446744073709551615) (by decide:1≠0)
  have j166:=len1 (by decide:1≤18446744073709551615) (by decide:1≠0)
  exact pi_done rfl e165 ⟨_,_,_,rfl,j166,o167⟩
 · 
  intro v168 e169
  refine dk rfl rfl (deps_cons rfl rfl fun x175 y176 h177 e178 f179=>?_)
  obtain⟨A180,n180,c180,rfl,j180,o180⟩:=h177
  have o180:=o180.ext f179
  refine deps_nil (pu (v:= .agg #[.bool true,.slice A180 n180 c180]) rfl (by kernel_rfl) ?_)
  exact pi_done rfl (Ext.refl _) ⟨_,_,_,_,rfl,(Zr_neg (by decide:1≠0) j180 o180)⟩
 · 
  intro v181 e182
  have hw10:=hw9.trans e182
  refine dk rfl rfl (dk rfl rfl (deps_cons rfl rfl fun x193 y194 h195 e196 f197=>?_))
  obtain⟨s198,A198,n198,c198,rfl,z198⟩:=h195
  have z198:=z198.ext f197
  refine deps_nil (cl (vs:= [.agg #[.bool s21,.slice A21 n21 c21],.agg #[.bool s198,.slice A198 n198 c198]]) hw10 (g_law6_alike (((((z21.ext (e24.trans (e29.trans e35))).updT hb40 u42).updT hb45 u47).updT hb50 u52).ext e182) (z21.le (lx_ L17 rfl)) (z198.cast (by first | exact wk1.symm | exact wk2.symm | exact wk3.symm)) (z198.le (Nat.le_trans (show ln (-((1:Nat):Int))≤1 by rw [ln_neg,ln_nat];exact (Nat.le_of_eq (len1 (by decide:1≤18446744073709551615) (by decide:1≠0)).symm)) (by decide)))) rfl (by kernel_rfl) fun xr201 v199 r201 e200 hw11=>?_)
  obtain rfl:=r201
  exact pi_done rfl e200 rfl
 · 
  exact fun _ _=>dk rfl rfl (dk rfl rfl (deps_nil (pu (v:= .bool true) rfl (by kernel_rfl) (pi_done rfl (Ext.refl _) rfl))))
 · 
  intro v214 e215
  have hw10:=hw9.trans e215
  refine dk rfl rfl (deps_cons rfl rfl fun x221 y222 h223 e224 f225=>?_)
  obtain⟨s226,A226,n226,c226,rfl,z226⟩:=h223
  have z226:=z226.ext f225
  refine dk rfl rfl (dk rfl rfl (dk rfl rfl (deps_cons rfl rfl fun x242 y243 h244 e245 f246=>?_)))
  obtain⟨s247,A247,n247,c247,rfl,z247⟩:=h244
  have z247:=z247.ext f246
  refine dk rfl rfl (dk rfl rfl (dk rfl rfl (dk rfl rfl (deps_cons rfl rfl fun x268 y269 h270 e271 f272=>?_))))
  obtain⟨A273,n273,c273,rfl,j273,o273⟩:=h270
  have o273:=o273.ext f272
  refine deps_cons rfl rfl fun x274 y275 h276 e277 f278=>?_
  obtain⟨s279,A279,n279,c279,rfl,z279⟩:=h276
  have z279:=z279.ext f278
  refine dk rfl rfl (dk rfl rfl (deps_nil (mv 1 rfl (wl_nil (eo_np (eo_then (cw_ret (eo_ret [.bool true] rfl ⟨rfl,trivial⟩ ?_))))))))
  exact⟨_,rfl,rfl,hw10⟩
end Go.Proofs.YtgilhcdglaneiaaGreat
