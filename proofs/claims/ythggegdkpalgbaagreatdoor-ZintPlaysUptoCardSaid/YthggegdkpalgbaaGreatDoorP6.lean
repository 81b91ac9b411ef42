/- Parts Plb, Plc, Pld, joined. -/
import Derived.Test.YthggegdkpalgbaaGreatDoorP5

namespace Go.Proofs.YthggegdkpalgbaaGreatDoor
open Go.RowKit
set_option maxHeartbeats 16000000 in
set_option maxRecDepth 20000 in
theorem g_askedMoreI {w:World}{k nn mm:Int}{bs:List Nat}{A C:Option Addr}{n1 c1 n2 c2:Nat}{zs ys:List Int}{ms ms2:List Nat}{sa:Bool}{Aa:Option Addr}{na ca:Nat}{x:Int}{sb:Bool}{Ab:Option Addr}{nb cb:Nat}{y:Int}{sd:Bool}{Ad:Option Addr}{nd cd:Nat}{z:Int}(hx:Zi w sa Aa na ca x) (la:na≤1048576) (hy:Zi w sb Ab nb cb y) (lb:nb≤1048576) (hz:Zi w sd Ad nd cd z) (ld:nd≤1048576) (hl:Zl w A n1 c1 zs ms) (hmb:∀i,ms.getD i 0≤1048576) (hl2:Zl w C n2 c2 ys ms2) (hmb2:∀i,ms2.getD i 0≤1048576) (hS:Signs w) (hbs:∀b,b∈bs→b<256) (hlen:bs.length≤1048576):
    Calls Tryz.prog 62 #[.agg #[.int .i64 k,.bool sa,.slice Aa na ca,.bool sb,.slice Ab nb cb,.bool sd,.slice Ad nd cd,.int .i64 nn,.int .i64 mm,.string (strB bs),.slice A n1 c1,.slice C n2 c2]] w (Gv w (AnsR w.heap.size (spec5b k x y bs))):=by
 have Lx:ln x≤1048576:=Nat.le_trans hx.ln la
 have Ly:ln y≤1048576:=Nat.le_trans hy.ln lb
 have Lz:ln z≤1048576:=Nat.le_trans hz.ln ld
 have hln1:∀i,ln (zs.getD i 0)≤1048576:=ln_getD5 hl hmb
 have hln2:∀i,ln (ys.getD i 0)≤1048576:=ln_getD5 hl2 hmb2
 refine sx_enter Tryz.func62 rfl (n:=102) rfl (bq rfl) (args:= [.agg #[.int .i64 k,.bool sa,.slice Aa na ca,.bool sb,.slice Ab nb cb,.bool sd,.slice Ad nd cd,.int .i64 nn,.int .i64 mm,.string (strB bs),.slice A n1 c1,.slice C n2 c2]]) (cw_keep [(0,.agg #[.int .i64 k,.bool sa,.slice Aa na ca,.bool sb,.slice Ab nb cb,.bool sd,.slice Ad nd cd,.int .i64 nn,.int .i64 mm,.string (strB bs),.slice A n1 c1,.slice C n2 c2])] ⟨rfl,trivial⟩ (sr (bx [.int .i64 k,.bool sa,.slice Aa na ca,.bool sb,.slice Ab nb cb,.bool sd,.slice Ad nd cd,.int .i64 nn,.int .i64 mm,.string (strB bs),.slice A n1 c1,.slice C n2 c2] (Ext.refl w) rfl rfl rfl fun g1 v2 hb4 ge5 e3 hw1=>(alq [F0,S0,F0,S0,I0,I0,I0,.string ⟨#[]⟩,I0] hw1 hb4.lt (fun _=>by kernel_rfl) rfl fun g6 v7 hb9 ge10 q11 e8 hw2=>(ne_ (sr (pu (v:= .agg #[F0,S0,F0,S0,I0,I0,I0,.string ⟨#[]⟩,I0]) rfl (by kernel_rfl) (alq [F0,S0,F0,S0,I0,I0,I0,.string ⟨#[]⟩,I0] hw2 hb9.lt (fun _=>by kernel_rfl) rfl fun g12 v13 hb15 ge16 q17 e14 hw3=>(so aggAns5 hb15 [F0,S0,F0,S0,I0,I0,I0,.string ⟨#[]⟩,I0] hw3 ge16 rfl rfl rfl rfl fun v18 hb20 u21 hw4=>(ne_ (cw_seq (sr (pf g1 0 rfl (by kernel_rfl) ?_)))))))))))))
 refine wl_load rfl rfl (load_cell (fun _=>by kernel_rfl) ((hb4.ext (e8.trans e14)).updN u21 (by omega)) rfl) (by decide) (ne_ (cw_block (cw_seq ?_)))
 by_cases hk14:k=14
 · 
  refine cw_region (wl_cmp rfl rfl rfl true (eq_t hk14) (by decide) (mv 1 rfl (ne_ (cw_true rfl (cw_region (pf g1 1 rfl (by kernel_rfl) (lo aggInt ((hb4.ext (e8.trans e14)).updN u21 (by omega)) [.bool sa,.slice Aa na ca] rfl rfl rfl (pf g1 3 rfl (by kernel_rfl) (lo aggInt ((hb4.ext (e8.trans e14)).updN u21 (by omega)) [.bool sb,.slice Ab nb cb] rfl rfl rfl ?_)))))))))
  have L23:ln (qT x y)≤1048576:=ln_qT Lx
  have L24:ln (rT x y)≤1048576:=ln_rT Lx
  refine cl (vs:= [.agg #[.bool sa,.slice Aa na ca],.agg #[.bool sb,.slice Ab nb cb]]) hw4 (j_zint_Trunc hw4.size (hx.ext hw4) (lx_ la rfl) (hy.ext hw4) (lx_ lb rfl)) rfl (by kernel_rfl) fun xr27 v25 r27 e26 hw5=>?_
  obtain⟨_,_,_,rfl,⟨s29,A29,n29,c29,rfl,z29⟩,⟨s30,A30,n30,c30,rfl,z30⟩,rfl⟩:=r27
  refine mv 1 rfl (pu (v:= .agg #[.bool s29,.slice A29 n29 c29]) rfl (by kernel_rfl) (pu (v:= .agg #[.bool s30,.slice A30 n30 c30]) rfl (by kernel_rfl) (pu (v:= .int .i64 (eZ y)) rfl (by kernel_rfl) (pf g12 0 rfl (by kernel_rfl) ?_))))
  have hb32:=(hb20.ext e26)
  refine so aggInt hb32 [.bool s29,.slice A29 n29 c29,F0,S0,I0,I0,I0,.string ⟨#[]⟩,I0] hw5 ge16 rfl rfl rfl rfl fun v31 hb33 u34 hw6=>(pf g12 2 rfl (by kernel_rfl) (so aggInt hb33 [.bool s29,.slice A29 n29 c29,.bool s30,.slice A30 n30 c30,I0,I0,I0,.string ⟨#[]⟩,I0] hw6 ge16 rfl rfl rfl rfl fun v36 hb38 u39 hw7=>(pf g12 8 rfl (by kernel_rfl) (wl_stored1 rfl rfl rfl (fun _=>by kernel_rfl) rfl hb38 (bq rfl) rfl [.bool s29,.slice A29 n29 c29,.bool s30,.slice A30 n30 c30,I0,I0,I0,.string ⟨#[]⟩,.int .i64 (eZ y)] rfl fun v41 hb43 u44 hs45=>?_))))
  have hw8:=u44.ext hw7 ge16
  refine wl_nil (eo_block_normal (eo_then (sr (lo aggAns5 hb43 [.bool s29,.slice A29 n29 c29,.bool s30,.slice A30 n30 c30,I0,I0,I0,.string ⟨#[]⟩,.int .i64 (eZ y)] rfl rfl rfl ?_))))
  have hb47:=((((((hb9.ext e14).updN u21 (by omega)).ext e26).updN u34 (by omega)).updN u39 (by omega)).updN u44 (by omega))
  refine so aggAns5 hb47 [.bool s29,.slice A29 n29 c29,.bool s30,.slice A30 n30 c30,I0,I0,I0,.string ⟨#[]⟩,.int .i64 (eZ y)] hw8 ge10 rfl rfl rfl rfl fun v46 hb48 u49 hw9=>(ne_ (cw_ret (eo_ret [.agg #[.bool s29,.slice A29 n29 c29,.bool s30,.slice A30 n30 c30,I0,I0,I0,.string ⟨#[]⟩,.int .i64 (eZ y)]] rfl ⟨⟨_,rfl,load_agg aggAns5 hb48 [.bool s29,.slice A29 n29 c29,.bool s30,.slice A30 n30 c30,I0,I0,I0,.string ⟨#[]⟩,.int .i64 (eZ y)] rfl (bq rfl) rfl⟩,trivial⟩ ?_)))
  have hs:spec5b k x y bs=⟨qT x y,rT x y,0,0,0,[],eZ y⟩:=by unfold spec5b;rw [if_pos hk14]
  exact⟨_,rfl,AnsR.of hs ⟨_,_,_,_,_,_,_,_,rfl,((((z29.updT hb32 u34).updT hb33 u39).updT hb38 u44).updT hb47 u49),((((z30.updT hb32 u34).updT hb33 u39).updT hb38 u44).updT hb47 u49),(lx_ L23 rfl),(lx_ L24 rfl),(fun c hc=>absurd hc (by simp))⟩,hw9⟩
 · 
  refine cw_region (wl_cmp rfl rfl rfl false (eq_f hk14) (by decide) (mv 1 rfl (ne_ (cw_false rfl (cw_seq ?_)))))
  by_cases hk15:k=15
  · 
   refine cw_region (wl_cmp rfl rfl rfl true (eq_t hk15) (by decide) (mv 1 rfl (ne_ (cw_true rfl (cw_region (pf g1 1 rfl (by kernel_rfl) (lo aggInt ((hb4.ext (e8.trans e14)).updN u21 (by omega)) [.bool sa,.slice Aa na ca] rfl rfl rfl (pf g1 3 rfl (by kernel_rfl) (lo aggInt ((hb4.ext (e8.trans e14)).updN u21 (by omega)) [.bool sb,.slice Ab nb cb] rfl rfl rfl ?_)))))))))
   have L51:ln (qF x y)≤1048578:=ln_qF Lx
   have L52:ln (rF x y)≤2097153:=ln_rF Lx Ly
   refine cl (vs:= [.agg #[.bool sa,.slice Aa na ca],.agg #[.bool sb,.slice Ab nb cb]]) hw4 (j_zint_Floor hw4.size (hx.ext hw4) (lx_ la rfl) (hy.ext hw4) (lx_ lb rfl)) rfl (by kernel_rfl) fun xr55 v53 r55 e54 hw5=>?_
   obtain⟨_,_,_,rfl,⟨s57,A57,n57,c57,rfl,z57⟩,⟨s58,A58,n58,c58,rfl,z58⟩,rfl⟩:=r55
   refine mv 1 rfl (pu (v:= .agg #[.bool s57,.slice A57 n57 c57]) rfl (by kernel_rfl) (pu (v:= .agg #[.bool s58,.slice A58 n58 c58]) rfl (by kernel_rfl) (pu (v:= .int .i64 (eZ y)) rfl (by kernel_rfl) (pf g12 0 rfl (by kernel_rfl) ?_))))
   have hb60:=(hb20.ext e54)
   refine so aggInt hb60 [.bool s57,.slice A57 n57 c57,F0,S0,I0,I0,I0,.string ⟨#[]⟩,I0] hw5 ge16 rfl rfl rfl rfl fun v59 hb61 u62 hw6=>(pf g12 2 rfl (by kernel_rfl) (so aggInt hb61 [.bool s57,.slice A57 n57 c57,.bool s58,.slice A58 n58 c58,I0,I0,I0,.string ⟨#[]⟩,I0] hw6 ge16 rfl rfl rfl rfl fun v64 hb66 u67 hw7=>(pf g12 8 rfl (by kernel_rfl) (wl_stored1 rfl rfl rfl (fun _=>by kernel_rfl) rfl hb66 (bq rfl) rfl [.bool s57,.slice A57 n57 c57,.bool s58,.slice A58 n58 c58,I0,I0,I0,.string ⟨#[]⟩,.int .i64 (eZ y)] rfl fun v69 hb71 u72 hs73=>?_))))
   have hw8:=u72.ext hw7 ge16
   refine wl_nil (eo_block_normal (eo_then (sr (lo aggAns5 hb71 [.bool s57,.slice A57 n57 c57,.bool s58,.slice A58 n58 c58,I0,I0,I0,.string ⟨#[]⟩,.int .i64 (eZ y)] rfl rfl rfl ?_))))
   have hb75:=((((((hb9.ext e14).updN u21 (by omega)).ext e54).updN u62 (by omega)).updN u67 (by omega)).updN u72 (by omega))
   refine so aggAns5 hb75 [.bool s57,.slice A57 n57 c57,.bool s58,.slice A58 n58 c58,I0,I0,I0,.string ⟨#[]⟩,.int .i64 (eZ y)] hw8 ge10 rfl rfl rfl rfl fun v74 hb76 u77 hw9=>(ne_ (cw_ret (eo_ret [.agg #[.bool s57,.slice A57 n57 c57,.bool s58,.slice A58 n58 c58,I0,I0,I0,.string ⟨#[]⟩,.int .i64 (eZ y)]] rfl ⟨⟨_,rfl,load_agg aggAns5 hb76 [.bool s57,.slice A57 n57 c57,.bool s58,.slice A58 n58 c58,I0,I0,I0,.string ⟨#[]⟩,.int .i64 (eZ y)] rfl (bq rfl) rfl⟩,trivial⟩ ?_)))
   have hs:spec5b k x y bs=⟨qF x y,rF x y,0,0,0,[],eZ y⟩:=by unfold spec5b;rw [if_neg hk14,if_pos hk15]
   exact⟨_,rfl,AnsR.of hs ⟨_,_,_,_,_,_,_,_,rfl,((((z57.updT hb60 u62).updT hb61 u67).updT hb66 u72).updT hb75 u77),((((z58.updT hb60 u62).updT hb61 u67).updT hb66 u72).updT hb75 u77),(lx_ L51 rfl),(lx_ L52 rfl),(fun c hc=>absurd hc (by simp))⟩,hw9⟩
  · 
   refine cw_region (wl_cmp rfl rfl rfl false (eq_f hk15) (by decide) (mv 1 rfl (ne_ (cw_false rfl (cw_seq ?_)))))
   by_cases hk16:k=16
   · 
    refine cw_region (wl_cmp rfl rfl rfl true (eq_t hk16) (by decide) (mv 1 rfl (ne_ (cw_true rfl (cw_region (pf g1 1 rfl (by kernel_rfl) (lo aggInt ((hb4.ext (e8.trans e14)).updN u21 (by omega)) [.bool sa,.slice Aa na ca] rfl rfl rfl (pf g1 3 rfl (by kernel_rfl) (lo aggInt ((hb4.ext (e8.trans e14)).updN u21 (by omega)) [.bool sb,.slice Ab nb cb] rfl rfl rfl ?_)))))))))
    have L79:ln (qE x y)≤1048578:=ln_qE Lx
    have L80:ln (rEu x y)≤1048576:=ln_rEu Ly
    refine cl (vs:= [.agg #[.bool sa,.slice Aa na ca],.agg #[.bool sb,.slice Ab nb cb]]) hw4 (j_zint_Euclid hw4.size (hx.ext hw4) (lx_ la rfl) (hy.ext hw4) (lx_ lb rfl)) rfl (by kernel_rfl) fun xr83 v81 r83 e82 hw5=>?_
    obtain⟨_,_,_,rfl,⟨s85,A85,n85,c85,rfl,z85⟩,⟨s86,A86,n86,c86,rfl,z86⟩,rfl⟩:=r83
    refine mv 1 rfl (pu (v:= .agg #[.bool s85,.slice A85 n85 c85]) rfl (by kernel_rfl) (pu (v:= .agg #[.bool s86,.slice A86 n86 c86]) rfl (by kernel_rfl) (pu (v:= .int .i64 (eZ y)) rfl (by kernel_rfl) (pf g12 0 rfl (by kernel_rfl) ?_))))
    have hb88:=(hb20.ext e82)
    refine so aggInt hb88 [.bool s85,.slice A85 n85 c85,F0,S0,I0,I0,I0,.string ⟨#[]⟩,I0] hw5 ge16 rfl rfl rfl rfl fun v87 hb89 u90 hw6=>(pf g12 2 rfl (by kernel_rfl) (so aggInt hb89 [.bool s85,.slice A85 n85 c85,.bool s86,.slice A86 n86 c86,I0,I0,I0,.string ⟨#[]⟩,I0] hw6 ge16 rfl rfl rfl rfl fun v92 hb94 u95 hw7=>(pf g12 8 rfl (by kernel_rfl) (wl_stored1 rfl rfl rfl (fun _=>by kernel_rfl) rfl hb94 (bq rfl) rfl [.bool s85,.slice A85 n85 c85,.bool s86,.slice A86 n86 c86,I0,I0,I0,.string ⟨#[]⟩,.int .i64 (eZ y)] rfl fun v97 hb99 u100 hs101=>?_))))
    have hw8:=u100.ext hw7 ge16
    refine wl_nil (eo_block_normal (eo_then (sr (lo aggAns5 hb99 [.bool s85,.slice A85 n85 c85,.bool s86,.slice A86 n86 c86,I0,I0,I0,.string ⟨#[]⟩,.int .i64 (eZ y)] rfl rfl rfl ?_))))
    have hb103:=((((((hb9.ext e14).updN u21 (by omega)).ext e82).updN u90 (by omega)).updN u95 (by omega)).updN u100 (by omega))
    refine so aggAns5 hb103 [.bool s85,.slice A85 n85 c85,.bool s86,.slice A86 n86 c86,I0,I0,I0,.string ⟨#[]⟩,.int .i64 (eZ y)] hw8 ge10 rfl rfl rfl rfl fun v102 hb104 u105 hw9=>(ne_ (cw_ret (eo_ret [.agg #[.bool s85,.slice A85 n85 c85,.bool s86,.slice A86 n86 c86,I0,I0,I0,.string ⟨#[]⟩,.int .i64 (eZ y)]] rfl ⟨⟨_,rfl,load_agg aggAns5 hb104 [.bool s85,.slice A85 n85 c85,.bool s86,.slice A86 n86 c86,I0,I0,I0,.string ⟨#[]⟩,.int .i64 (eZ y)] rfl (bq rfl) rfl⟩,trivial⟩ ?_)))
    have hs:spec5b k x y bs=⟨qE x y,rEu x y,0,0,0,[],eZ y⟩:=by unfold spec5b;rw [if_neg hk14,if_neg hk15,if_pos hk16]
    exact⟨_,rfl,AnsR.of hs ⟨_,_,_,_,_,_,_,_,rfl,((((z85.updT hb88 u90).updT hb89 u95).updT hb94 u100).updT hb103 u105),((((z86.updT hb88 u90).updT hb89 u95).updT hb94 u100).updT hb103 u105),(lx_ L79 rfl),(lx_ L80 rfl),(fun c hc=>absurd hc (by simp))⟩,hw9⟩
   · 
    refine cw_region (wl_cmp rfl rfl rfl false (eq_f hk16) (by decide) (mv 1 rfl (ne_ (cw_false rfl (cw_seq ?_)))))
    by_cases hk17:k=17
    · 
     refine cw_region (wl_cmp rfl rfl rfl true (eq_t hk17) (by decide) (mv 1 rfl (ne_ (cw_true rfl (cw_region (pf g1 1 rfl (by kernel_rfl) (lo aggInt ((hb4.ext (e8.trans e14)).updN u21 (by omega)) [.bool sa,.slice Aa na ca] rfl rfl rfl (pf g1 3 rfl (by kernel_rfl) (lo aggInt ((hb4.ext (e8.trans e14)).updN u21 (by omega)) [.bool sb,.slice Ab nb cb] rfl rfl rfl ?_)))))))))
     have L107:ln (vX x y)≤1048576:=ln_vX Lx
     refine cl (vs:= [.agg #[.bool sa,.slice Aa na ca],.agg #[.bool sb,.slice Ab nb cb]]) hw4 (j_zint_Exact hw4.size (hx.ext hw4) (lx_ la rfl) (hy.ext hw4) (lx_ lb rfl)) rfl (by kernel_rfl) fun xr110 v108 r110 e109 hw5=>?_
     obtain⟨_,_,rfl,⟨s112,A112,n112,c112,rfl,z112⟩,rfl⟩:=r110
     refine mv 1 rfl (pu (v:= .agg #[.bool s112,.slice A112 n112 c112]) rfl (by kernel_rfl) (pu (v:= .int .i64 (eX x y)) rfl (by kernel_rfl) (pf g12 0 rfl (by kernel_rfl) ?_)))
     have hb114:=(hb20.ext e109)
     refine so aggInt hb114 [.bool s112,.slice A112 n112 c112,F0,S0,I0,I0,I0,.string ⟨#[]⟩,I0] hw5 ge16 rfl rfl rfl rfl fun v113 hb115 u116 hw6=>(pf g12 8 rfl (by kernel_rfl) (wl_stored1 rfl rfl rfl (fun _=>by kernel_rfl) rfl hb115 (bq rfl) rfl [.bool s112,.slice A112 n112 c112,F0,S0,I0,I0,I0,.string ⟨#[]⟩,.int .i64 (eX x y)] rfl fun v118 hb120 u121 hs122=>?_))
     have hw7:=u121.ext hw6 ge16
     refine wl_nil (eo_block_normal (eo_then (sr (lo aggAns5 hb120 [.bool s112,.slice A112 n112 c112,F0,S0,I0,I0,I0,.string ⟨#[]⟩,.int .i64 (eX x y)] rfl rfl rfl ?_))))
     have hb124:=(((((hb9.ext e14).updN u21 (by omega)).ext e109).updN u116 (by omega)).updN u121 (by omega))
     refine so aggAns5 hb124 [.bool s112,.slice A112 n112 c112,F0,S0,I0,I0,I0,.string ⟨#[]⟩,.int .i64 (eX x y)] hw7 ge10 rfl rfl rfl rfl fun v123 hb125 u126 hw8=>(ne_ (cw_ret (eo_ret [.agg #[.bool s112,.slice A112 n112 c112,F0,S0,I0,I0,I0,.string ⟨#[]⟩,.int .i64 (eX x y)]] rfl ⟨⟨_,rfl,load_agg aggAns5 hb125 [.bool s112,.slice A112 n112 c112,F0,S0,I0,I0,I0,.string ⟨#[]⟩,.int .i64 (eX x y)] rfl (bq rfl) rfl⟩,trivial⟩ ?_)))
     have hs:spec5b k x y bs=⟨vX x y,0,0,0,0,[],eX x y⟩:=by unfold spec5b;rw [if_neg hk14,if_neg hk15,if_neg hk16,if_pos hk17]
     exact⟨_,rfl,AnsR.of hs ⟨_,_,_,_,_,_,_,_,rfl,(((z112.updT hb114 u116).updT hb115 u121).updT hb124 u126),(((((((Zr.zero (w:=v7) (base:=w.heap.size)).ext e14).updT hb15 u21).ext e109).updT hb114 u116).updT hb115 u121).updT hb124 u126),(lx_ L107 rfl),(Nat.le_trans (by decide:ln 0≤0) (by decide)),(fun c hc=>absurd hc (by simp))⟩,hw8⟩
    · 
     refine cw_region (wl_cmp rfl rfl rfl false (eq_f hk17) (by decide) (mv 1 rfl (ne_ (cw_false rfl (cw_seq ?_)))))
     by_cases hk18:k=18
     · 
      refine cw_region (wl_cmp rfl rfl rfl true (eq_t hk18) (by decide) (mv 1 rfl (ne_ (cw_true rfl (cw_region (pf g1 1 rfl (by kernel_rfl) (lo aggInt ((hb4.ext (e8.trans e14)).updN u21 (by omega)) [.bool sa,.slice Aa na ca] rfl rfl rfl (pf g1 3 rfl (by kernel_rfl) (lo aggInt ((hb4.ext (e8.trans e14)).updN u21 (by omega)) [.bool sb,.slice Ab nb cb] rfl rfl rfl ?_)))))))))
      have L128:ln (rEu x y)≤1048576:=ln_rEu Ly
      refine cl (vs:= [.agg #[.bool sa,.slice Aa na ca],.agg #[.bool sb,.slice Ab nb cb]]) hw4 (j_zint_Mod hw4.size (hx.ext hw4) (lx_ la rfl) (hy.ext hw4) (lx_ lb rfl)) rfl (by kernel_rfl) fun xr131 v129 r131 e130 hw5=>?_
      obtain⟨_,_,rfl,⟨s133,A133,n133,c133,rfl,z133⟩,rfl⟩:=r131
      refine mv 1 rfl (pu (v:= .agg #[.bool s133,.slice A133 n133 c133]) rfl (by kernel_rfl) (pu (v:= .int .i64 (eZ y)) rfl (by kernel_rfl) (pf g12 0 rfl (by kernel_rfl) ?_)))
      have hb135:=(hb20.ext e130)
      refine so aggInt hb135 [.bool s133,.slice A133 n133 c133,F0,S0,I0,I0,I0,.string ⟨#[]⟩,I0] hw5 ge16 rfl rfl rfl rfl fun v134 hb136 u137 hw6=>(pf g12 8 rfl (by kernel_rfl) (wl_stored1 rfl rfl rfl (fun _=>by kernel_rfl) rfl hb136 (bq rfl) rfl [.bool s133,.slice A133 n133 c133,F0,S0,I0,I0,I0,.string ⟨#[]⟩,.int .i64 (eZ y)] rfl fun v139 hb141 u142 hs143=>?_))
      have hw7:=u142.ext hw6 ge16
      refine wl_nil (eo_block_normal (eo_then (sr (lo aggAns5 hb141 [.bool s133,.slice A133 n133 c133,F0,S0,I0,I0,I0,.string ⟨#[]⟩,.int .i64 (eZ y)] rfl rfl rfl ?_))))
      have hb145:=(((((hb9.ext e14).updN u21 (by omega)).ext e130).updN u137 (by omega)).updN u142 (by omega))
      refine so aggAns5 hb145 [.bool s133,.slice A133 n133 c133,F0,S0,I0,I0,I0,.string ⟨#[]⟩,.int .i64 (eZ y)] hw7 ge10 rfl rfl rfl rfl fun v144 hb146 u147 hw8=>(ne_ (cw_ret (eo_ret [.agg #[.bool s133,.slice A133 n133 c133,F0,S0,I0,I0,I0,.string ⟨#[]⟩,.int .i64 (eZ y)]] rfl ⟨⟨_,rfl,load_agg aggAns5 hb146 [.bool s133,.slice A133 n133 c133,F0,S0,I0,I0,I0,.string ⟨#[]⟩,.int .i64 (eZ y)] rfl (bq rfl) rfl⟩,trivial⟩ ?_)))
      have hs:spec5b k x y bs=⟨rEu x y,0,0,0,0,[],eZ y⟩:=by unfold spec5b;rw [if_neg hk14,if_neg hk15,if_neg hk16,if_neg hk17,if_pos hk18]
      exact⟨_,rfl,AnsR.of hs ⟨_,_,_,_,_,_,_,_,rfl,(((z133.updT hb135 u137).updT hb136 u142).updT hb145 u147),(((((((Zr.zero (w:=v7) (base:=w.heap.size)).ext e14).updT hb15 u21).ext e130).updT hb135 u137).updT hb136 u142).updT hb145 u147),(lx_ L128 rfl),(Nat.le_trans (by decide:ln 0≤0) (by decide)),(fun c hc=>absurd hc (by simp))⟩,hw8⟩
     · 
      refine cw_region (wl_cmp rfl rfl rfl false (eq_f hk18) (by decide) (mv 1 rfl (ne_ (cw_false rfl (cw_seq ?_)))))
      by_cases hk19:k=19
      · 
       refine cw_region (wl_cmp rfl rfl rfl true (eq_t hk19) (by decide) (mv 1 rfl (ne_ (cw_true rfl (cw_region (pf g1 1 rfl (by kernel_rfl) (lo aggInt ((hb4.ext (e8.trans e14)).updN u21 (by omega)) [.bool sa,.slice Aa na ca] rfl rfl rfl (pf g1 3 rfl (by kernel_rfl) (lo aggInt ((hb4.ext (e8.trans e14)).updN u21 (by omega)) [.bool sb,.slice Ab nb cb] rfl rfl rfl ?_)))))))))
       have L149:ln (vS x y)≤1048577:=ln_vS Ly
       refine cl (vs:= [.agg #[.bool sa,.slice Aa na ca],.agg #[.bool sb,.slice Ab nb cb]]) hw4 (j_zint_Sym hw4.size (hx.ext hw4) (lx_ la rfl) (hy.ext hw4) (lx_ lb rfl)) rfl (by kernel_rfl) fun xr152 v150 r152 e151 hw5=>?_
       obtain⟨_,_,rfl,⟨s154,A154,n154,c154,rfl,z154⟩,rfl⟩:=r152
       refine mv 1 rfl (pu (v:= .agg #[.bool s154,.slice A154 n154 c154]) rfl (by kernel_rfl) (pu (v:= .int .i64 (eZ y)) rfl (by kernel_rfl) (pf g12 0 rfl (by kernel_rfl) ?_)))
       have hb156:=(hb20.ext e151)
       refine so aggInt hb156 [.bool s154,.slice A154 n154 c154,F0,S0,I0,I0,I0,.string ⟨#[]⟩,I0] hw5 ge16 rfl rfl rfl rfl fun v155 hb157 u158 hw6=>(pf g12 8 rfl (by kernel_rfl) (wl_stored1 rfl rfl rfl (fun _=>by kernel_rfl) rfl hb157 (bq rfl) rfl [.bool s154,.slice A154 n154 c154,F0,S0,I0,I0,I0,.string ⟨#[]⟩,.int .i64 (eZ y)] rfl fun v160 hb162 u163 hs164=>?_))
       have hw7:=u163.ext hw6 ge16
       refine wl_nil (eo_block_normal (eo_then (sr (lo aggAns5 hb162 [.bool s154,.slice A154 n154 c154,F0,S0,I0,I0,I0,.string ⟨#[]⟩,.int .i64 (eZ y)] rfl rfl rfl ?_))))
       have hb166:=(((((hb9.ext e14).updN u21 (by omega)).ext e151).updN u158 (by omega)).updN u163 (by omega))
       refine so aggAns5 hb166 [.bool s154,.slice A154 n154 c154,F0,S0,I0,I0,I0,.string ⟨#[]⟩,.int .i64 (eZ y)] hw7 ge10 rfl rfl rfl rfl fun v165 hb167 u168 hw8=>(ne_ (cw_ret (eo_ret [.agg #[.bool s154,.slice A154 n154 c154,F0,S0,I0,I0,I0,.string ⟨#[]⟩,.int .i64 (eZ y)]] rfl ⟨⟨_,rfl,load_agg aggAns5 hb167 [.bool s154,.slice A154 n154 c154,F0,S0,I0,I0,I0,.string ⟨#[]⟩,.int .i64 (eZ y)] rfl (bq rfl) rfl⟩,trivial⟩ ?_)))
       have hs:spec5b k x y bs=⟨vS x y,0,0,0,0,[],eZ y⟩:=by unfold spec5b;rw [if_neg hk14,if_neg hk15,if_neg hk16,if_neg hk17,if_neg hk18,if_pos hk19]
       exact⟨_,rfl,AnsR.of hs ⟨_,_,_,_,_,_,_,_,rfl,(((z154.updT hb156 u158).updT hb157 u163).updT hb166 u168),(((((((Zr.zero (w:=v7) (base:=w.heap.size)).ext e14).updT hb15 u21).ext e151).updT hb156 u158).updT hb157 u163).updT hb166 u168),(lx_ L149 rfl),(Nat.le_trans (by decide:ln 0≤0) (by decide)),(fun c hc=>absurd hc (by simp))⟩,hw8⟩
      · 
       refine cw_region (wl_cmp rfl rfl rfl false (eq_f hk19) (by decide) (mv 1 rfl (ne_ (cw_false rfl (cw_seq ?_)))))
       by_cases hk20:k=20
       · 
        refine cw_region (wl_cmp rfl rfl rfl true (eq_t hk20) (by decide) (mv 1 rfl (ne_ (cw_true rfl (cw_region (pf g1 1 rfl (by kernel_rfl) (lo aggInt ((hb4.ext (e8.trans e14)).updN u21 (by omega)) [.bool sa,.slice Aa na ca] rfl rfl rfl (cl (vs:= [.agg #[.bool sa,.slice Aa na ca]]) hw4 (rx_zTextF (hx.ext hw4) (lx_ la rfl) (hS.ext hw4)) rfl (by kernel_rfl) fun xr172 v170 r172 e171 hw5=>?_))))))))
        obtain rfl:=r172
        refine pf g12 7 rfl (by kernel_rfl) ?_
        have hb174:=(hb20.ext e171)
        refine wl_stored1 rfl rfl rfl (fun _=>by kernel_rfl) rfl hb174 (bq rfl) rfl [F0,S0,F0,S0,I0,I0,I0,.string (strB (txtZ x)),I0] rfl fun v173 hb175 u176 hs177=>?_
        have hw6:=u176.ext hw5 ge16
        refine wl_nil (eo_block_normal (eo_then (sr (lo aggAns5 hb175 [F0,S0,F0,S0,I0,I0,I0,.string (strB (txtZ x)),I0] rfl rfl rfl ?_))))
        have hb179:=((((hb9.ext e14).updN u21 (by omega)).ext e171).updN u176 (by omega))
        refine so aggAns5 hb179 [F0,S0,F0,S0,I0,I0,I0,.string (strB (txtZ x)),I0] hw6 ge10 rfl rfl rfl rfl fun v178 hb180 u181 hw7=>(ne_ (cw_ret (eo_ret [.agg #[F0,S0,F0,S0,I0,I0,I0,.string (strB (txtZ x)),I0]] rfl ⟨⟨_,rfl,load_agg aggAns5 hb180 [F0,S0,F0,S0,I0,I0,I0,.string (strB (txtZ x)),I0] rfl (bq rfl) rfl⟩,trivial⟩ ?_)))
        have hs:spec5b k x y bs=⟨0,0,0,0,0,txtZ x,0⟩:=by unfold spec5b;rw [if_neg hk14,if_neg hk15,if_neg hk16,if_neg hk17,if_neg hk18,if_neg hk19,if_pos hk20]
        exact⟨_,rfl,AnsR.of hs ⟨_,_,_,_,_,_,_,_,rfl,((((((Zr.zero (w:=v7) (base:=w.heap.size)).ext e14).updT hb15 u21).ext e171).updT hb174 u176).updT hb179 u181),((((((Zr.zero (w:=v7) (base:=w.heap.size)).ext e14).updT hb15 u21).ext e171).updT hb174 u176).updT hb179 u181),(Nat.le_trans (by decide:ln 0≤0) (by decide)),(Nat.le_trans (by decide:ln 0≤0) (by decide)),txtZ_lt⟩,hw7⟩
       · 
        refine cw_region (wl_cmp rfl rfl rfl false (eq_f hk20) (by decide) (mv 1 rfl (ne_ (cw_false rfl (cw_seq ?_)))))
        by_cases hk21:k=21
        · 
         refine cw_region (wl_cmp rfl rfl rfl true (eq_t hk21) (by decide) (mv 1 rfl (ne_ (cw_true rfl (cw_region (pf g1 9 rfl (by kernel_rfl) (wl_load rfl rfl (load_cell (fun _=>by kernel_rfl) ((hb4.ext (e8.trans e14)).updN u21 (by omega)) rfl) (by decide) ?_)))))))
         have L183:ln (rV bs)≤1048576:=ln_rV hlen
         refine cl (vs:= [.string (strB bs)]) hw4 (j_zint_Read hw4.size hbs hlen) rfl (by kernel_rfl) fun xr186 v184 r186 e185 hw5=>?_
         obtain⟨_,_,rfl,⟨s188,A188,n188,c188,rfl,z188⟩,rfl⟩:=r186
         refine mv 1 rfl (pu (v:= .agg #[.bool s188,.slice A188 n188 c188]) rfl (by kernel_rfl) (pu (v:= .int .i64 (rE bs)) rfl (by kernel_rfl) (pf g12 0 rfl (by kernel_rfl) ?_)))
         have hb190:=(hb20.ext e185)
         refine so aggInt hb190 [.bool s188,.slice A188 n188 c188,F0,S0,I0,I0,I0,.string ⟨#[]⟩,I0] hw5 ge16 rfl rfl rfl rfl fun v189 hb191 u192 hw6=>(pf g12 8 rfl (by kernel_rfl) (wl_stored1 rfl rfl rfl (fun _=>by kernel_rfl) rfl hb191 (bq rfl) rfl [.bool s188,.slice A188 n188 c188,F0,S0,I0,I0,I0,.string ⟨#[]⟩,.int .i64 (rE bs)] rfl fun v194 hb196 u197 hs198=>?_))
         have hw7:=u197.ext hw6 ge16
         refine wl_nil (eo_block_normal (eo_then (sr (lo aggAns5 hb196 [.bool s188,.slice A188 n188 c188,F0,S0,I0,I0,I0,.string ⟨#[]⟩,.int .i64 (rE bs)] rfl rfl rfl ?_))))
         have hb200:=(((((hb9.ext e14).updN u21 (by omega)).ext e185).updN u192 (by omega)).updN u197 (by omega))
         refine so aggAns5 hb200 [.bool s188,.slice A188 n188 c188,F0,S0,I0,I0,I0,.string ⟨#[]⟩,.int .i64 (rE bs)] hw7 ge10 rfl rfl rfl rfl fun v199 hb201 u202 hw8=>(ne_ (cw_ret (eo_ret [.agg #[.bool s188,.slice A188 n188 c188,F0,S0,I0,I0,I0,.string ⟨#[]⟩,.int .i64 (rE bs)]] rfl ⟨⟨_,rfl,load_agg aggAns5 hb201 [.bool s188,.slice A188 n188 c188,F0,S0,I0,I0,I0,.string ⟨#[]⟩,.int .i64 (rE bs)] rfl (bq rfl) rfl⟩,trivial⟩ ?_)))
         have hs:spec5b k x y bs=⟨rV bs,0,0,0,0,[],rE bs⟩:=by unfold spec5b;rw [if_neg hk14,if_neg hk15,if_neg hk16,if_neg hk17,if_neg hk18,if_neg hk19,if_neg hk20,if_pos hk21]
         exact⟨_,rfl,AnsR.of hs ⟨_,_,_,_,_,_,_,_,rfl,(((z188.updT hb190 u192).updT hb191 u197).updT hb200 u202),(((((((Zr.zero (w:=v7) (base:=w.heap.size)).ext e14).updT hb15 u21).ext e185).updT hb190 u192).updT hb191 u197).updT hb200 u202),(lx_ L183 rfl),(Nat.le_trans (by decide:ln 0≤0) (by decide)),(fun c hc=>absurd hc (by simp))⟩,hw8⟩
        · 
         refine cw_region (wl_cmp rfl rfl rfl false (eq_f hk21) (by decide) (mv 1 rfl (ne_ (cw_false rfl (cw_skip (eo_block_normal (eo_then (sr (lo aggAns5 hb20 [F0,S0,F0,S0,I0,I0,I0,.string ⟨#[]⟩,I0] rfl rfl rfl ?_)))))))))
         have hb205:=((hb9.ext e14).updN u21 (by omega))
         refine so aggAns5 hb205 [F0,S0,F0,S0,I0,I0,I0,.string ⟨#[]⟩,I0] hw4 ge10 rfl rfl rfl rfl fun v204 hb206 u207 hw5=>(ne_ (cw_ret (eo_ret [.agg #[F0,S0,F0,S0,I0,I0,I0,.string ⟨#[]⟩,I0]] rfl ⟨⟨_,rfl,load_agg aggAns5 hb206 [F0,S0,F0,S0,I0,I0,I0,.string ⟨#[]⟩,I0] rfl (bq rfl) rfl⟩,trivial⟩ ?_)))
         have hs:spec5b k x y bs=⟨0,0,0,0,0,[],0⟩:=by unfold spec5b;rw [if_neg hk14,if_neg hk15,if_neg hk16,if_neg hk17,if_neg hk18,if_neg hk19,if_neg hk20,if_neg hk21]
         exact⟨_,rfl,AnsR.of hs ⟨_,_,_,_,_,_,_,_,rfl,((((Zr.zero (w:=v7) (base:=w.heap.size)).ext e14).updT hb15 u21).updT hb205 u207),((((Zr.zero (w:=v7) (base:=w.heap.size)).ext e14).updT hb15 u21).updT hb205 u207),(Nat.le_trans (by decide:ln 0≤0) (by decide)),(Nat.le_trans (by decide:ln 0≤0) (by decide)),(fun c hc=>absurd hc (by simp))⟩,hw5⟩
theorem g_askedMore {w:World}{k nn mm:Int}{bs:List Nat}{A C:Option Addr}{n1 c1 n2 c2:Nat}{zs ys:List Int}{ms ms2:List Nat}{sa:Bool}{Aa:Option Addr}{na ca:Nat}{x:Int}{sb:Bool}{Ab:Option Addr}{nb cb:Nat}{y:Int}{sd:Bool}{Ad:Option Addr}{nd cd:Nat}{z:Int}{b:Nat}(hS:Signs w) (hx:Zi w sa Aa na ca x) (la:na≤1048576) (hy:Zi w sb Ab nb cb y) (lb:nb≤1048576) (hz:Zi w sd Ad nd cd z) (ld:nd≤1048576) (hl:Zl w A n1 c1 zs ms) (hmb:∀i,ms.getD i 0≤1048576) (hl2:Zl w C n2 c2 ys ms2) (hmb2:∀i,ms2.getD i 0≤1048576) (hbs:∀b,b∈bs→b<256) (hlen:bs.length≤1048576) (hb:b≤w.heap.size):
  Calls Tryz.prog 62 #[.agg #[.int .i64 k,.bool sa,.slice Aa na ca,.bool sb,.slice Ab nb cb,.bool sd,.slice Ad nd cd,.int .i64 nn,.int .i64 mm,.string (strB bs),.slice A n1 c1,.slice C n2 c2]] w (Gv w (AnsR b (spec5b k x y bs))):=(g_askedMoreI hx la hy lb hz ld hl hmb hl2 hmb2 hS hbs hlen).mono (Gv.imp (AnsR.imp hb))
set_option maxHeartbeats 16000000 in
set_option maxRecDepth 20000 in
theorem g_askedI {w:World}{k nn mm:Int}{bs:List Nat}{A C:Option Addr}{n1 c1 n2 c2:Nat}{zs ys:List Int}{ms ms2:List Nat}{sa:Bool}{Aa:Option Addr}{na ca:Nat}{x:Int}{sb:Bool}{Ab:Option Addr}{nb cb:Nat}{y:Int}{sd:Bool}{Ad:Option Addr}{nd cd:Nat}{z:Int}(hx:Zi w sa Aa na ca x) (la:na≤1048576) (hy:Zi w sb Ab nb cb y) (lb:nb≤1048576) (hz:Zi w sd Ad nd cd z) (ld:nd≤1048576) (hl:Zl w A n1 c1 zs ms) (hmb:∀i,ms.getD i 0≤1048576) (hl2:Zl w C n2 c2 ys ms2) (hmb2:∀i,ms2.getD i 0≤1048576) (hS:Signs w) (hn1:n1≤1048576) (hn2:n2≤1048576) (hbs:∀b,b∈bs→b<256) (hlen:bs.length≤1048576) (hm1: -9223372036854775808≤mm) (hm2:mm≤9223372036854775807):
    Calls Tryz.prog 10 #[.agg #[.int .i64 k,.bool sa,.slice Aa na ca,.bool sb,.slice Ab nb cb,.bool sd,.slice Ad nd cd,.int .i64 nn,.int .i64 mm,.string (strB bs),.slice A n1 c1,.slice C n2 c2]] w (Gv w (AnsR w.heap.size (spec5 k x y z nn mm bs zs ys n1 n2))):=by
 have Lx:ln x≤1048576:=Nat.le_trans hx.ln la
 have Ly:ln y≤1048576:=Nat.le_trans hy.ln lb
 have Lz:ln z≤1048576:=Nat.le_trans hz.ln ld
 have hln1:∀i,ln (zs.getD i 0)≤1048576:=ln_getD5 hl hmb
 have hln2:∀i,ln (ys.getD i 0)≤1048576:=ln_getD5 hl2 hmb2
 refine sx_enter Tryz.func10 rfl (n:=129) rfl (bq rfl) (args:= [.agg #[.int .i64 k,.bool sa,.slice Aa na ca,.bool sb,.slice Ab nb cb,.bool sd,.slice Ad nd cd,.int .i64 nn,.int .i64 mm,.string (strB bs),.slice A n1 c1,.slice C n2 c2]]) (cw_keep [(0,.agg #[.int .i64 k,.bool sa,.slice Aa na ca,.bool sb,.slice Ab nb cb,.bool sd,.slice Ad nd cd,.int .i64 nn,.int .i64 mm,.string (strB bs),.slice A n1 c1,.slice C n2 c2])] ⟨rfl,trivial⟩ (sr (bx [.int .i64 k,.bool sa,.slice Aa na ca,.bool sb,.slice Ab nb cb,.bool sd,.slice Ad nd cd,.int .i64 nn,.int .i64 mm,.string (strB bs),.slice A n1 c1,.slice C n2 c2] (Ext.refl w) rfl rfl rfl fun g1 v2 hb4 ge5 e3 hw1=>(alq [F0,S0,F0,S0,I0,I0,I0,.string ⟨#[]⟩,I0] hw1 hb4.lt (fun _=>by kernel_rfl) rfl fun g6 v7 hb9 ge10 q11 e8 hw2=>(ne_ (sr (pu (v:= .agg #[F0,S0,F0,S0,I0,I0,I0,.string ⟨#[]⟩,I0]) rfl (by kernel_rfl) (alq [F0,S0,F0,S0,I0,I0,I0,.string ⟨#[]⟩,I0] hw2 hb9.lt (fun _=>by kernel_rfl) rfl fun g12 v13 hb15 ge16 q17 e14 hw3=>(so aggAns5 hb15 [F0,S0,F0,S0,I0,I0,I0,.string ⟨#[]⟩,I0] hw3 ge16 rfl rfl rfl rfl fun v18 hb20 u21 hw4=>(ne_ (cw_seq (sr (pf g1 0 rfl (by kernel_rfl) ?_)))))))))))))
 refine wl_load rfl rfl (load_cell (fun _=>by kernel_rfl) ((hb4.ext (e8.trans e14)).updN u21 (by omega)) rfl) (by decide) (ne_ (cw_block (cw_seq ?_)))
 by_cases hbig:14≤k
 · 
  refine cw_region (wl_cmp rfl rfl rfl false (eq_f (by omega)) (by decide) (mv 1 rfl (ne_ (cw_false rfl (sr (wl_cmp rfl rfl rfl false (eq_f (by omega)) (by decide) (mv 1 rfl (ne_ (cw_false rfl (sr (wl_cmp rfl rfl rfl false (eq_f (by omega)) (by decide) (mv 1 rfl (wl_nil ?_)))))))))))))
  refine eo_then (cw_false rfl (sr (wl_cmp rfl rfl rfl false (eq_f (by omega)) (by decide) (mv 1 rfl (ne_ (cw_false rfl (sr (wl_cmp rfl rfl rfl false (eq_f (by omega)) (by decide) (mv 1 rfl (ne_ (cw_false rfl (sr (wl_cmp rfl rfl rfl false (eq_f (by omega)) (by decide) ?_)))))))))))))
  refine mv 1 rfl (ne_ (cw_false rfl (sr (wl_cmp rfl rfl rfl false (eq_f (by omega)) (by decide) (mv 1 rfl (ne_ (cw_false rfl (sr (wl_cmp rfl rfl rfl false (eq_f (by omega)) (by decide) (mv 1 rfl (ne_ (cw_false rfl (cw_seq ?_)))))))))))))
  refine cw_region (wl_cmp rfl rfl rfl false (eq_f (by omega)) (by decide) (mv 1 rfl (ne_ (cw_false rfl (sr (wl_cmp rfl rfl rfl false (eq_f (by omega)) (by decide) (mv 1 rfl (ne_ (cw_false rfl (sr (wl_cmp rfl rfl rfl false (eq_f (by omega)) (by decide) (mv 1 rfl (wl_nil ?_)))))))))))))
  refine eo_then (cw_false rfl (sr (wl_cmp rfl rfl rfl false (eq_f (by omega)) (by decide) (mv 1 rfl (ne_ (cw_false rfl (sr (wl_cmp rfl rfl rfl false (eq_f (by omega)) (by decide) (mv 1 rfl (ne_ (cw_false rfl (cw_skip (eo_block_normal ?_)))))))))))))
  refine eo_then (cw_seq (sr (pf g1 0 rfl (by kernel_rfl) (wl_load rfl rfl (load_cell (fun _=>by kernel_rfl) ((hb4.ext (e8.trans e14)).updN u21 (by omega)) rfl) (by decide) (wl_cmp rfl rfl rfl true (ge_t hbig) (by decide) (ne_ (cw_true rfl (sr (lo aggOp5 ((hb4.ext (e8.trans e14)).updN u21 (by omega)) [.int .i64 k,.bool sa,.slice Aa na ca,.bool sb,.slice Ab nb cb,.bool sd,.slice Ad nd cd,.int .i64 nn,.int .i64 mm,.string (strB bs),.slice A n1 c1,.slice C n2 c2] rfl rfl rfl (cl (vs:= [.agg #[.int .i64 k,.bool sa,.slice Aa na ca,.bool sb,.slice Ab nb cb,.bool sd,.slice Ad nd cd,.int .i64 nn,.int .i64 mm,.string (strB bs),.slice A n1 c1,.slice C n2 c2]]) hw4 (g_askedMore (hS.ext hw4) (hx.ext hw4) (lx_ la rfl) (hy.ext hw4) (lx_ lb rfl) (hz.ext hw4) (lx_ ld rfl) (hl.ext hw4) hmb (hl2.ext hw4) hmb2 hbs hlen hw4.size) rfl (by kernel_rfl) fun xr25 v23 r25 e24 hw5=>?_))))))))))
  obtain⟨s26,A26,n26,c26,t26,B26,m26,d26,rfl,zx26,zy26,lx26,ly26,lt26⟩:=r25
  have hb28:=(((hb9.ext e14).updN u21 (by omega)).ext e24)
  refine so aggAns5 hb28 [.bool s26,.slice A26 n26 c26,.bool t26,.slice B26 m26 d26,.int .i64 ((spec5b k x y bs).V),.int .i64 ((spec5b k x y bs).P),.int .i64 ((spec5b k x y bs).Q),.string (strB (spec5b k x y bs).S),.int .i64 ((spec5b k x y bs).E)] hw5 ge10 rfl rfl rfl rfl fun v27 hb29 u30 hw6=>(ne_ (cw_ret (eo_thenR (eo_ret [.agg #[.bool s26,.slice A26 n26 c26,.bool t26,.slice B26 m26 d26,.int .i64 ((spec5b k x y bs).V),.int .i64 ((spec5b k x y bs).P),.int .i64 ((spec5b k x y bs).Q),.string (strB (spec5b k x y bs).S),.int .i64 ((spec5b k x y bs).E)]] rfl ⟨⟨_,rfl,load_agg aggAns5 hb29 [.bool s26,.slice A26 n26 c26,.bool t26,.slice B26 m26 d26,.int .i64 ((spec5b k x y bs).V),.int .i64 ((spec5b k x y bs).P),.int .i64 ((spec5b k x y bs).Q),.string (strB (spec5b k x y bs).S),.int .i64 ((spec5b k x y bs).E)] rfl (bq rfl) rfl⟩,trivial⟩ ?_))))
  have hs:spec5 k x y z nn mm bs zs ys n1 n2=spec5b k x y bs:=by unfold spec5;rw [if_pos hbig]
  exact⟨_,rfl,AnsR.of hs ⟨_,_,_,_,_,_,_,_,rfl,(zx26.updT hb28 u30),(zy26.updT hb28 u30),lx26,ly26,lt26⟩,hw6⟩
 · 
  by_cases hk1:k=1
  · 
   refine cw_region (wl_cmp rfl rfl rfl true (eq_t hk1) (by decide) (mv 1 rfl (ne_ (cw_true rfl (cw_region (pf g1 1 rfl (by kernel_rfl) (lo aggInt ((hb4.ext (e8.trans e14)).updN u21 (by omega)) [.bool sa,.slice Aa na ca] rfl rfl rfl (cl (vs:= [.agg #[.bool sa,.slice Aa na ca]]) hw4 (g_zint_Least hw4.size (hx.ext hw4) (lx_ la rfl)) rfl (by kernel_rfl) fun xr34 v32 r34 e33 hw5=>?_))))))))
   obtain⟨s35,A35,n35,c35,rfl,z35⟩:=r34
   refine pf g12 0 rfl (by kernel_rfl) ?_
   have hb37:=(hb20.ext e33)
   refine so aggInt hb37 [.bool s35,.slice A35 n35 c35,F0,S0,I0,I0,I0,.string ⟨#[]⟩,I0] hw5 ge16 rfl rfl rfl rfl fun v36 hb38 u39 hw6=>(wl_nil (eo_block_normal (eo_then (cw_seq (sr (pf g1 0 rfl (by kernel_rfl) (wl_load rfl rfl (load_cell (fun _=>by kernel_rfl) ((((hb4.ext (e8.trans e14)).updN u21 (by omega)).ext e33).updN u39 (by omega)) rfl) (by decide) (wl_cmp rfl rfl rfl false (ge_f (by omega)) (by decide) (ne_ (cw_false rfl (cw_skip (eo_then (cw_seq ?_)))))))))))))
   refine cw_region (lo aggAns5 hb38 [.bool s35,.slice A35 n35 c35,F0,S0,I0,I0,I0,.string ⟨#[]⟩,I0] rfl rfl rfl ?_)
   have hb42:=((((hb9.ext e14).updN u21 (by omega)).ext e33).updN u39 (by omega))
   refine so aggAns5 hb42 [.bool s35,.slice A35 n35 c35,F0,S0,I0,I0,I0,.string ⟨#[]⟩,I0] hw6 ge10 rfl rfl rfl rfl fun v41 hb43 u44 hw7=>(ne_ (cw_ret (eo_ret [.agg #[.bool s35,.slice A35 n35 c35,F0,S0,I0,I0,I0,.string ⟨#[]⟩,I0]] rfl ⟨⟨_,rfl,load_agg aggAns5 hb43 [.bool s35,.slice A35 n35 c35,F0,S0,I0,I0,I0,.string ⟨#[]⟩,I0] rfl (bq rfl) rfl⟩,trivial⟩ ?_)))
   have hs:spec5 k x y z nn mm bs zs ys n1 n2=⟨x,0,0,0,0,[],0⟩:=by unfold spec5;rw [if_neg hbig,if_pos hk1]
   exact⟨_,rfl,AnsR.of hs ⟨_,_,_,_,_,_,_,_,rfl,((z35.updT hb37 u39).updT hb42 u44),((((((Zr.zero (w:=v7) (base:=w.heap.size)).ext e14).updT hb15 u21).ext e33).updT hb37 u39).updT hb42 u44),(lx_ Lx rfl),(Nat.le_trans (by decide:ln 0≤0) (by decide)),(fun c hc=>absurd hc (by simp))⟩,hw7⟩
  · 
   refine cw_region (wl_cmp rfl rfl rfl false (eq_f hk1) (by decide) (mv 1 rfl (ne_ (cw_false rfl (cw_seq ?_)))))
   by_cases hk2:k=2
   · 
    refine cw_region (wl_cmp rfl rfl rfl true (eq_t hk2) (by decide) (mv 1 rfl (ne_ (cw_true rfl (cw_region (pf g1 8 rfl (by kernel_rfl) (wl_load rfl rfl (load_cell (fun _=>by kernel_rfl) ((hb4.ext (e8.trans e14)).updN u21 (by omega)) rfl) (by decide) ?_)))))))
    have L46:ln (mm)≤1:=len_wd_w5 (by omega)
    refine cl (vs:= [.int .i64 mm]) hw4 (g_zint_Of hw4.size hm1 hm2) rfl (by kernel_rfl) fun xr49 v47 r49 e48 hw5=>?_
    obtain⟨s50,A50,n50,c50,rfl,z50⟩:=r49
    refine pf g12 0 rfl (by kernel_rfl) ?_
    have hb52:=(hb20.ext e48)
    refine so aggInt hb52 [.bool s50,.slice A50 n50 c50,F0,S0,I0,I0,I0,.string ⟨#[]⟩,I0] hw5 ge16 rfl rfl rfl rfl fun v51 hb53 u54 hw6=>(wl_nil (eo_block_normal (eo_then (cw_seq (sr (pf g1 0 rfl (by kernel_rfl) (wl_load rfl rfl (load_cell (fun _=>by kernel_rfl) ((((hb4.ext (e8.trans e14)).updN u21 (by omega)).ext e48).updN u54 (by omega)) rfl) (by decide) (wl_cmp rfl rfl rfl false (ge_f (by omega)) (by decide) (ne_ (cw_false rfl (cw_skip (eo_then (cw_seq ?_)))))))))))))
    refine cw_region (lo aggAns5 hb53 [.bool s50,.slice A50 n50 c50,F0,S0,I0,I0,I0,.string ⟨#[]⟩,I0] rfl rfl rfl ?_)
    have hb57:=((((hb9.ext e14).updN u21 (by omega)).ext e48).updN u54 (by omega))
    refine so aggAns5 hb57 [.bool s50,.slice A50 n50 c50,F0,S0,I0,I0,I0,.string ⟨#[]⟩,I0] hw6 ge10 rfl rfl rfl rfl fun v56 hb58 u59 hw7=>(ne_ (cw_ret (eo_ret [.agg #[.bool s50,.slice A50 n50 c50,F0,S0,I0,I0,I0,.string ⟨#[]⟩,I0]] rfl ⟨⟨_,rfl,load_agg aggAns5 hb58 [.bool s50,.slice A50 n50 c50,F0,S0,I0,I0,I0,.string ⟨#[]⟩,I0] rfl (bq rfl) rfl⟩,trivial⟩ ?_)))
    have hs:spec5 k x y z nn mm bs zs ys n1 n2=⟨mm,0,0,0,0,[],0⟩:=by unfold spec5;rw [if_neg hbig,if_neg hk1,if_pos hk2]
    exact⟨_,rfl,AnsR.of hs ⟨_,_,_,_,_,_,_,_,rfl,((z50.updT hb52 u54).updT hb57 u59),((((((Zr.zero (w:=v7) (base:=w.heap.size)).ext e14).updT hb15 u21).ext e48).updT hb52 u54).updT hb57 u59),(lx_ L46 rfl),(Nat.le_trans (by decide:ln 0≤0) (by decide)),(fun c hc=>absurd hc (by simp))⟩,hw7⟩
   · 
    refine cw_region (wl_cmp rfl rfl rfl false (eq_f hk2) (by decide) (mv 1 rfl (ne_ (cw_false rfl (cw_seq ?_)))))
    by_cases hk3:k=3
    · 
     refine cw_region (wl_cmp rfl rfl rfl true (eq_t hk3) (by decide) (mv 1 rfl (ne_ (cw_true rfl (cw_region (pf g1 1 rfl (by kernel_rfl) (lo aggInt ((hb4.ext (e8.trans e14)).updN u21 (by omega)) [.bool sa,.slice Aa na ca] rfl rfl rfl (cl (vs:= [.agg #[.bool sa,.slice Aa na ca]]) hw4 (j_zint_Small (hx.ext hw4) (lx_ la rfl)) rfl (by kernel_rfl) fun xr63 v61 r63 e62 hw5=>?_))))))))
     obtain⟨_,_,rfl,rfl,rfl⟩:=r63
     refine mv 1 rfl (pu (v:= .int .i64 (smV x)) rfl (by kernel_rfl) (pu (v:= .int .i64 (smE x)) rfl (by kernel_rfl) (pf g12 4 rfl (by kernel_rfl) ?_)))
     have hb66:=(hb20.ext e62)
     refine wl_stored1 rfl rfl rfl (fun _=>by kernel_rfl) rfl hb66 (bq rfl) rfl [F0,S0,F0,S0,.int .i64 (smV x),I0,I0,.string ⟨#[]⟩,I0] rfl fun v65 hb67 u68 hs69=>?_
     have hw6:=u68.ext hw5 ge16
     refine pf g12 8 rfl (by kernel_rfl) (wl_stored1 rfl rfl rfl (fun _=>by kernel_rfl) rfl hb67 (bq rfl) rfl [F0,S0,F0,S0,.int .i64 (smV x),I0,I0,.string ⟨#[]⟩,.int .i64 (smE x)] rfl fun v70 hb72 u73 hs74=>?_)
     have hw7:=u73.ext hw6 ge16
     refine wl_nil (eo_block_normal (eo_then (cw_seq (sr (pf g1 0 rfl (by kernel_rfl) (wl_load rfl rfl (load_cell (fun _=>by kernel_rfl) (((((hb4.ext (e8.trans e14)).updN u21 (by omega)).ext e62).updN u68 (by omega)).updN u73 (by omega)) rfl) (by decide) (wl_cmp rfl rfl rfl false (ge_f (by omega)) (by decide) (ne_ (cw_false rfl (cw_skip (eo_then (sr (lo aggAns5 hb72 [F0,S0,F0,S0,.int .i64 (smV x),I0,I0,.string ⟨#[]⟩,.int .i64 (smE x)] rfl rfl rfl ?_)))))))))))))
     have hb76:=(((((hb9.ext e14).updN u21 (by omega)).ext e62).updN u68 (by omega)).updN u73 (by omega))
     refine so aggAns5 hb76 [F0,S0,F0,S0,.int .i64 (smV x),I0,I0,.string ⟨#[]⟩,.int .i64 (smE x)] hw7 ge10 rfl rfl rfl rfl fun v75 hb77 u78 hw8=>(ne_ (cw_ret (eo_ret [.agg #[F0,S0,F0,S0,.int .i64 (smV x),I0,I0,.string ⟨#[]⟩,.int .i64 (smE x)]] rfl ⟨⟨_,rfl,load_agg aggAns5 hb77 [F0,S0,F0,S0,.int .i64 (smV x),I0,I0,.string ⟨#[]⟩,.int .i64 (smE x)] rfl (bq rfl) rfl⟩,trivial⟩ ?_)))
     have hs:spec5 k x y z nn mm bs zs ys n1 n2=⟨0,0,smV x,0,0,[],smE x⟩:=by unfold spec5;rw [if_neg hbig,if_neg hk1,if_neg hk2,if_pos hk3]
     exact⟨_,rfl,AnsR.of hs ⟨_,_,_,_,_,_,_,_,rfl,(((((((Zr.zero (w:=v7) (base:=w.heap.size)).ext e14).updT hb15 u21).ext e62).updT hb66 u68).updT hb67 u73).updT hb76 u78),(((((((Zr.zero (w:=v7) (base:=w.heap.size)).ext e14).updT hb15 u21).ext e62).updT hb66 u68).updT hb67 u73).updT hb76 u78),(Nat.le_trans (by decide:ln 0≤0) (by decide)),(Nat.le_trans (by decide:ln 0≤0) (by decide)),(fun c hc=>absurd hc (by simp))⟩,hw8⟩
    · 
     refine cw_region (wl_cmp rfl rfl rfl false (eq_f hk3) (by decide) (mv 1 rfl (ne_ (cw_false rfl (cw_seq ?_)))))
     by_cases hk4:k=4
     · 
      refine cw_region (wl_cmp rfl rfl rfl true (eq_t hk4) (by decide) (mv 1 rfl (ne_ (cw_true rfl (sr (pf g1 1 rfl (by kernel_rfl) (lo aggInt ((hb4.ext (e8.trans e14)).updN u21 (by omega)) [.bool sa,.slice Aa na ca] rfl rfl rfl (cl (vs:= [.agg #[.bool sa,.slice Aa na ca]]) hw4 (g_zint_Sign (hx.ext hw4) (lx_ la rfl)) rfl (by kernel_rfl) fun xr82 v80 r82 e81 hw5=>?_))))))))
      obtain rfl:=r82
      refine pf g12 4 rfl (by kernel_rfl) ?_
      have hb84:=(hb20.ext e81)
      refine wl_stored1 rfl rfl rfl (fun _=>by kernel_rfl) rfl hb84 (bq rfl) rfl [F0,S0,F0,S0,.int .i64 (scmp x 0),I0,I0,.string ⟨#[]⟩,I0] rfl fun v83 hb85 u86 hs87=>?_
      have hw6:=u86.ext hw5 ge16
      refine ne_ (sr (pf g1 1 rfl (by kernel_rfl) (lo aggInt ((((hb4.ext (e8.trans e14)).updN u21 (by omega)).ext e81).updN u86 (by omega)) [.bool sa,.slice Aa na ca] rfl rfl rfl (pf g1 3 rfl (by kernel_rfl) (lo aggInt ((((hb4.ext (e8.trans e14)).updN u21 (by omega)).ext e81).updN u86 (by omega)) [.bool sb,.slice Ab nb cb] rfl rfl rfl (cl (vs:= [.agg #[.bool sa,.slice Aa na ca],.agg #[.bool sb,.slice Ab nb cb]]) hw6 (g_zint_Cmp (hx.ext hw6) (lx_ la rfl) (hy.ext hw6) (lx_ lb rfl)) rfl (by kernel_rfl) fun xr90 v88 r90 e89 hw7=>?_))))))
      obtain rfl:=r90
      refine pf g12 5 rfl (by kernel_rfl) ?_
      have hb92:=(hb85.ext e89)
      refine wl_stored1 rfl rfl rfl (fun _=>by kernel_rfl) rfl hb92 (bq rfl) rfl [F0,S0,F0,S0,.int .i64 (scmp x 0),.int .i64 (scmp x y),I0,.string ⟨#[]⟩,I0] rfl fun v91 hb93 u94 hs95=>?_
      have hw8:=u94.ext hw7 ge16
      refine ne_ (cw_region (pf g1 1 rfl (by kernel_rfl) (lo aggInt ((((((hb4.ext (e8.trans e14)).updN u21 (by omega)).ext e81).updN u86 (by omega)).ext e89).updN u94 (by omega)) [.bool sa,.slice Aa na ca] rfl rfl rfl (pf g1 3 rfl (by kernel_rfl) (lo aggInt ((((((hb4.ext (e8.trans e14)).updN u21 (by omega)).ext e81).updN u86 (by omega)).ext e89).updN u94 (by omega)) [.bool sb,.slice Ab nb cb] rfl rfl rfl (cl (vs:= [.agg #[.bool sa,.slice Aa na ca],.agg #[.bool sb,.slice Ab nb cb]]) hw8 (g_zint_CmpAbs (hx.ext hw8) (lx_ la rfl) (hy.ext hw8) (lx_ lb rfl)) rfl (by kernel_rfl) fun xr98 v96 r98 e97 hw9=>?_))))))
      obtain rfl:=r98
      refine pf g12 6 rfl (by kernel_rfl) ?_
      have hb100:=(hb93.ext e97)
      refine wl_stored1 rfl rfl rfl (fun _=>by kernel_rfl) rfl hb100 (bq rfl) rfl [F0,S0,F0,S0,.int .i64 (scmp x 0),.int .i64 (scmp x y),.int .i64 (cmp3 (Int.natAbs x) (Int.natAbs y)),.string ⟨#[]⟩,I0] rfl fun v99 hb101 u102 hs103=>?_
      have hw10:=u102.ext hw9 ge16
      refine wl_nil (eo_block_normal (eo_then (cw_seq (sr (pf g1 0 rfl (by kernel_rfl) (wl_load rfl rfl (load_cell (fun _=>by kernel_rfl) ((((((((hb4.ext (e8.trans e14)).updN u21 (by omega)).ext e81).updN u86 (by omega)).ext e89).updN u94 (by omega)).ext e97).updN u102 (by omega)) rfl) (by decide) (wl_cmp rfl rfl rfl false (ge_f (by omega)) (by decide) (ne_ (cw_false rfl (cw_skip (eo_then (sr (lo aggAns5 hb101 [F0,S0,F0,S0,.int .i64 (scmp x 0),.int .i64 (scmp x y),.int .i64 (cmp3 (Int.natAbs x) (Int.natAbs y)),.string ⟨#[]⟩,I0] rfl rfl rfl ?_)))))))))))))
      have hb105:=((((((((hb9.ext e14).updN u21 (by omega)).ext e81).updN u86 (by omega)).ext e89).updN u94 (by omega)).ext e97).updN u102 (by omega))
      refine so aggAns5 hb105 [F0,S0,F0,S0,.int .i64 (scmp x 0),.int .i64 (scmp x y),.int .i64 (cmp3 (Int.natAbs x) (Int.natAbs y)),.string ⟨#[]⟩,I0] hw10 ge10 rfl rfl rfl rfl fun v104 hb106 u107 hw11=>(ne_ (cw_ret (eo_ret [.agg #[F0,S0,F0,S0,.int .i64 (scmp x 0),.int .i64 (scmp x y),.int .i64 (cmp3 (Int.natAbs x) (Int.natAbs y)),.string ⟨#[]⟩,I0]] rfl ⟨⟨_,rfl,load_agg aggAns5 hb106 [F0,S0,F0,S0,.int .i64 (scmp x 0),.int .i64 (scmp x y),.int .i64 (cmp3 (Int.natAbs x) (Int.natAbs y)),.string ⟨#[]⟩,I0] rfl (bq rfl) rfl⟩,trivial⟩ ?_)))
      have hs:spec5 k x y z nn mm bs zs ys n1 n2=⟨0,0,scmp x 0,scmp x y,cmp3 (Int.natAbs x) (Int.natAbs y),[],0⟩:=by unfold spec5;rw [if_neg hbig,if_neg hk1,if_neg hk2,if_neg hk3,if_pos hk4]
      exact⟨_,rfl,AnsR.of hs ⟨_,_,_,_,_,_,_,_,rfl,((((((((((Zr.zero (w:=v7) (base:=w.heap.size)).ext e14).updT hb15 u21).ext e81).updT hb84 u86).ext e89).updT hb92 u94).ext e97).updT hb100 u102).updT hb105 u107),((((((((((Zr.zero (w:=v7) (base:=w.heap.size)).ext e14).updT hb15 u21).ext e81).updT hb84 u86).ext e89).updT hb92 u94).ext e97).updT hb100 u102).updT hb105 u107),(Nat.le_trans (by decide:ln 0≤0) (by decide)),(Nat.le_trans (by decide:ln 0≤0) (by decide)),(fun c hc=>absurd hc (by simp))⟩,hw11⟩
     · 
      refine cw_region (wl_cmp rfl rfl rfl false (eq_f hk4) (by decide) (mv 1 rfl (ne_ (cw_false rfl (cw_seq ?_)))))
      by_cases hk5:k=5
      · 
       refine cw_region (wl_cmp rfl rfl rfl true (eq_t hk5) (by decide) (mv 1 rfl (ne_ (cw_true rfl (cw_region (pf g1 1 rfl (by kernel_rfl) (lo aggInt ((hb4.ext (e8.trans e14)).updN u21 (by omega)) [.bool sa,.slice Aa na ca] rfl rfl rfl ?_)))))))
       have L109:ln (-x)≤1048576:=(by rw [ln_neg];exact Lx)
       refine cl (vs:= [.agg #[.bool sa,.slice Aa na ca]]) hw4 (g_zint_Neg hw4.size (hx.ext hw4) (lx_ la rfl)) rfl (by kernel_rfl) fun xr112 v110 r112 e111 hw5=>?_
       obtain⟨s113,A113,n113,c113,rfl,z113⟩:=r112
       refine pf g12 0 rfl (by kernel_rfl) ?_
       have hb115:=(hb20.ext e111)
       refine so aggInt hb115 [.bool s113,.slice A113 n113 c113,F0,S0,I0,I0,I0,.string ⟨#[]⟩,I0] hw5 ge16 rfl rfl rfl rfl fun v114 hb116 u117 hw6=>(wl_nil (eo_block_normal (eo_then (cw_seq (sr (pf g1 0 rfl (by kernel_rfl) (wl_load rfl rfl (load_cell (fun _=>by kernel_rfl) ((((hb4.ext (e8.trans e14)).updN u21 (by omega)).ext e111).updN u117 (by omega)) rfl) (by decide) (wl_cmp rfl rfl rfl false (ge_f (by omega)) (by decide) (ne_ (cw_false rfl (cw_skip (eo_then (cw_seq ?_)))))))))))))
       refine cw_region (lo aggAns5 hb116 [.bool s113,.slice A113 n113 c113,F0,S0,I0,I0,I0,.string ⟨#[]⟩,I0] rfl rfl rfl ?_)
       have hb120:=((((hb9.ext e14).updN u21 (by omega)).ext e111).updN u117 (by omega))
       refine so aggAns5 hb120 [.bool s113,.slice A113 n113 c113,F0,S0,I0,I0,I0,.string ⟨#[]⟩,I0] hw6 ge10 rfl rfl rfl rfl fun v119 hb121 u122 hw7=>(ne_ (cw_ret (eo_ret [.agg #[.bool s113,.slice A113 n113 c113,F0,S0,I0,I0,I0,.string ⟨#[]⟩,I0]] rfl ⟨⟨_,rfl,load_agg aggAns5 hb121 [.bool s113,.slice A113 n113 c113,F0,S0,I0,I0,I0,.string ⟨#[]⟩,I0] rfl (bq rfl) rfl⟩,trivial⟩ ?_)))
       have hs:spec5 k x y z nn mm bs zs ys n1 n2=⟨-x,0,0,0,0,[],0⟩:=by unfold spec5;rw [if_neg hbig,if_neg hk1,if_neg hk2,if_neg hk3,if_neg hk4,if_pos hk5]
       exact⟨_,rfl,AnsR.of hs ⟨_,_,_,_,_,_,_,_,rfl,((z113.updT hb115 u117).updT hb120 u122),((((((Zr.zero (w:=v7) (base:=w.heap.size)).ext e14).updT hb15 u21).ext e111).updT hb115 u117).updT hb120 u122),(lx_ L109 rfl),(Nat.le_trans (by decide:ln 0≤0) (by decide)),(fun c hc=>absurd hc (by simp))⟩,hw7⟩
      · 
       refine cw_region (wl_cmp rfl rfl rfl false (eq_f hk5) (by decide) (mv 1 rfl (ne_ (cw_false rfl (cw_seq ?_)))))
       by_cases hk6:k=6
       · 
        refine cw_region (wl_cmp rfl rfl rfl true (eq_t hk6) (by decide) (mv 1 rfl (ne_ (cw_true rfl (cw_region (pf g1 1 rfl (by kernel_rfl) (lo aggInt ((hb4.ext (e8.trans e14)).updN u21 (by omega)) [.bool sa,.slice Aa na ca] rfl rfl rfl ?_)))))))
        have L124:ln ((Int.natAbs x:Int))≤1048576:=(by rw [ln_abs];exact Lx)
        refine cl (vs:= [.agg #[.bool sa,.slice Aa na ca]]) hw4 (g_zint_Abs hw4.size (hx.ext hw4) (lx_ la rfl)) rfl (by kernel_rfl) fun xr127 v125 r127 e126 hw5=>?_
        obtain⟨s128,A128,n128,c128,rfl,z128⟩:=r127
        refine pf g12 0 rfl (by kernel_rfl) ?_
        have hb130:=(hb20.ext e126)
        refine so aggInt hb130 [.bool s128,.slice A128 n128 c128,F0,S0,I0,I0,I0,.string ⟨#[]⟩,I0] hw5 ge16 rfl rfl rfl rfl fun v129 hb131 u132 hw6=>(wl_nil (eo_block_normal (eo_then (cw_seq (sr (pf g1 0 rfl (by kernel_rfl) (wl_load rfl rfl (load_cell (fun _=>by kernel_rfl) ((((hb4.ext (e8.trans e14)).updN u21 (by omega)).ext e126).updN u132 (by omega)) rfl) (by decide) (wl_cmp rfl rfl rfl false (ge_f (by omega)) (by decide) (ne_ (cw_false rfl (cw_skip (eo_then (cw_seq ?_)))))))))))))
        refine cw_region (lo aggAns5 hb131 [.bool s128,.slice A128 n128 c128,F0,S0,I0,I0,I0,.string ⟨#[]⟩,I0] rfl rfl rfl ?_)
        have hb135:=((((hb9.ext e14).updN u21 (by omega)).ext e126).updN u132 (by omega))
        refine so aggAns5 hb135 [.bool s128,.slice A128 n128 c128,F0,S0,I0,I0,I0,.string ⟨#[]⟩,I0] hw6 ge10 rfl rfl rfl rfl fun v134 hb136 u137 hw7=>(ne_ (cw_ret (eo_ret [.agg #[.bool s128,.slice A128 n128 c128,F0,S0,I0,I0,I0,.string ⟨#[]⟩,I0]] rfl ⟨⟨_,rfl,load_agg aggAns5 hb136 [.bool s128,.slice A128 n128 c128,F0,S0,I0,I0,I0,.string ⟨#[]⟩,I0] rfl (bq rfl) rfl⟩,trivial⟩ ?_)))
        have hs:spec5 k x y z nn mm bs zs ys n1 n2=⟨(Int.natAbs x:Int),0,0,0,0,[],0⟩:=by unfold spec5;rw [if_neg hbig,if_neg hk1,if_neg hk2,if_neg hk3,if_neg hk4,if_neg hk5,if_pos hk6]
        exact⟨_,rfl,AnsR.of hs ⟨_,_,_,_,_,_,_,_,rfl,((z128.updT hb130 u132).updT hb135 u137),((((((Zr.zero (w:=v7) (base:=w.heap.size)).ext e14).updT hb15 u21).ext e126).updT hb130 u132).updT hb135 u137),(lx_ L124 rfl),(Nat.le_trans (by decide:ln 0≤0) (by decide)),(fun c hc=>absurd hc (by simp))⟩,hw7⟩
       · 
        refine cw_region (wl_cmp rfl rfl rfl false (eq_f hk6) (by decide) (mv 1 rfl (ne_ (cw_false rfl (cw_seq ?_)))))
        by_cases hk7:k=7
        · 
         refine cw_region (wl_cmp rfl rfl rfl true (eq_t hk7) (by decide) (mv 1 rfl (ne_ (cw_true rfl (cw_region (pf g1 1 rfl (by kernel_rfl) (lo aggInt ((hb4.ext (e8.trans e14)).updN u21 (by omega)) [.bool sa,.slice Aa na ca] rfl rfl rfl (pf g1 3 rfl (by kernel_rfl) (lo aggInt ((hb4.ext (e8.trans e14)).updN u21 (by omega)) [.bool sb,.slice Ab nb cb] rfl rfl rfl ?_)))))))))
         have L139:ln (x+y)≤1048577:=Nat.le_trans (ln_add Lx Ly) (by decide)
         refine cl (vs:= [.agg #[.bool sa,.slice Aa na ca],.agg #[.bool sb,.slice Ab nb cb]]) hw4 (g_zint_Add hw4.size (hx.ext hw4) (lx_ la rfl) (hy.ext hw4) (lx_ lb rfl)) rfl (by kernel_rfl) fun xr142 v140 r142 e141 hw5=>?_
         obtain⟨s143,A143,n143,c143,rfl,z143⟩:=r142
         refine pf g12 0 rfl (by kernel_rfl) ?_
         have hb145:=(hb20.ext e141)
         refine so aggInt hb145 [.bool s143,.slice A143 n143 c143,F0,S0,I0,I0,I0,.string ⟨#[]⟩,I0] hw5 ge16 rfl rfl rfl rfl fun v144 hb146 u147 hw6=>(wl_nil (eo_block_normal (eo_then (cw_seq (sr (pf g1 0 rfl (by kernel_rfl) (wl_load rfl rfl (load_cell (fun _=>by kernel_rfl) ((((hb4.ext (e8.trans e14)).updN u21 (by omega)).ext e141).updN u147 (by omega)) rfl) (by decide) (wl_cmp rfl rfl rfl false (ge_f (by omega)) (by decide) (ne_ (cw_false rfl (cw_skip (eo_then (cw_seq ?_)))))))))))))
         refine cw_region (lo aggAns5 hb146 [.bool s143,.slice A143 n143 c143,F0,S0,I0,I0,I0,.string ⟨#[]⟩,I0] rfl rfl rfl ?_)
         have hb150:=((((hb9.ext e14).updN u21 (by omega)).ext e141).updN u147 (by omega))
         refine so aggAns5 hb150 [.bool s143,.slice A143 n143 c143,F0,S0,I0,I0,I0,.string ⟨#[]⟩,I0] hw6 ge10 rfl rfl rfl rfl fun v149 hb151 u152 hw7=>(ne_ (cw_ret (eo_ret [.agg #[.bool s143,.slice A143 n143 c143,F0,S0,I0,I0,I0,.string ⟨#[]⟩,I0]] rfl ⟨⟨_,rfl,load_agg aggAns5 hb151 [.bool s143,.slice A143 n143 c143,F0,S0,I0,I0,I0,.string ⟨#[]⟩,I0] rfl (bq rfl) rfl⟩,trivial⟩ ?_)))
         have hs:spec5 k x y z nn mm bs zs ys n1 n2=⟨x+y,0,0,0,0,[],0⟩:=by unfold spec5;rw [if_neg hbig,if_neg hk1,if_neg hk2,if_neg hk3,if_neg hk4,if_neg hk5,if_neg hk6,if_pos hk7]
         exact⟨_,rfl,AnsR.of hs ⟨_,_,_,_,_,_,_,_,rfl,((z143.updT hb145 u147).updT hb150 u152),((((((Zr.zero (w:=v7) (base:=w.heap.size)).ext e14).updT hb15 u21).ext e141).updT hb145 u147).updT hb150 u152),(lx_ L139 rfl),(Nat.le_trans (by decide:ln 0≤0) (by decide)),(fun c hc=>absurd hc (by simp))⟩,hw7⟩
        · 
         refine cw_region (wl_cmp rfl rfl rfl false (eq_f hk7) (by decide) (mv 1 rfl (ne_ (cw_false rfl (cw_seq ?_)))))
         by_cases hk8:k=8
         · 
          refine cw_region (wl_cmp rfl rfl rfl true (eq_t hk8) (by decide) (mv 1 rfl (ne_ (cw_true rfl (cw_region (pf g1 1 rfl (by kernel_rfl) (lo aggInt ((hb4.ext (e8.trans e14)).updN u21 (by omega)) [.bool sa,.slice Aa na ca] rfl rfl rfl (pf g1 3 rfl (by kernel_rfl) (lo aggInt ((hb4.ext (e8.trans e14)).updN u21 (by omega)) [.bool sb,.slice Ab nb cb] rfl rfl rfl ?_)))))))))
          have L154:ln (x-y)≤1048577:=Nat.le_trans (ln_sub Lx Ly) (by decide)
          refine cl (vs:= [.agg #[.bool sa,.slice Aa na ca],.agg #[.bool sb,.slice Ab nb cb]]) hw4 (g_zint_Sub hw4.size (hx.ext hw4) (lx_ la rfl) (hy.ext hw4) (lx_ lb rfl)) rfl (by kernel_rfl) fun xr157 v155 r157 e156 hw5=>?_
          obtain⟨s158,A158,n158,c158,rfl,z158⟩:=r157
          refine pf g12 0 rfl (by kernel_rfl) ?_
          have hb160:=(hb20.ext e156)
          refine so aggInt hb160 [.bool s158,.slice A158 n158 c158,F0,S0,I0,I0,I0,.string ⟨#[]⟩,I0] hw5 ge16 rfl rfl rfl rfl fun v159 hb161 u162 hw6=>(wl_nil (eo_block_normal (eo_then (cw_seq (sr (pf g1 0 rfl (by kernel_rfl) (wl_load rfl rfl (load_cell (fun _=>by kernel_rfl) ((((hb4.ext (e8.trans e14)).updN u21 (by omega)).ext e156).updN u162 (by omega)) rfl) (by decide) (wl_cmp rfl rfl rfl false (ge_f (by omega)) (by decide) (ne_ (cw_false rfl (cw_skip (eo_then (cw_seq ?_)))))))))))))
          refine cw_region (lo aggAns5 hb161 [.bool s158,.slice A158 n158 c158,F0,S0,I0,I0,I0,.string ⟨#[]⟩,I0] rfl rfl rfl ?_)
          have hb165:=((((hb9.ext e14).updN u21 (by omega)).ext e156).updN u162 (by omega))
          refine so aggAns5 hb165 [.bool s158,.slice A158 n158 c158,F0,S0,I0,I0,I0,.string ⟨#[]⟩,I0] hw6 ge10 rfl rfl rfl rfl fun v164 hb166 u167 hw7=>(ne_ (cw_ret (eo_ret [.agg #[.bool s158,.slice A158 n158 c158,F0,S0,I0,I0,I0,.string ⟨#[]⟩,I0]] rfl ⟨⟨_,rfl,load_agg aggAns5 hb166 [.bool s158,.slice A158 n158 c158,F0,S0,I0,I0,I0,.string ⟨#[]⟩,I0] rfl (bq rfl) rfl⟩,trivial⟩ ?_)))
          have hs:spec5 k x y z nn mm bs zs ys n1 n2=⟨x-y,0,0,0,0,[],0⟩:=by unfold spec5;rw [if_neg hbig,if_neg hk1,if_neg hk2,if_neg hk3,if_neg hk4,if_neg hk5,if_neg hk6,if_neg hk7,if_pos hk8]
          exact⟨_,rfl,AnsR.of hs ⟨_,_,_,_,_,_,_,_,rfl,((z158.updT hb160 u162).updT hb165 u167),((((((Zr.zero (w:=v7) (base:=w.heap.size)).ext e14).updT hb15 u21).ext e156).updT hb160 u162).updT hb165 u167),(lx_ L154 rfl),(Nat.le_trans (by decide:ln 0≤0) (by decide)),(fun c hc=>absurd hc (by simp))⟩,hw7⟩
         · 
          refine cw_region (wl_cmp rfl rfl rfl false (eq_f hk8) (by decide) (mv 1 rfl (ne_ (cw_false rfl (cw_seq ?_)))))
          by_cases hk9:k=9
          · 
           refine cw_region (wl_cmp rfl rfl rfl true (eq_t hk9) (by decide) (mv 1 rfl (ne_ (cw_true rfl (cw_region (pf g1 1 rfl (by kernel_rfl) (lo aggInt ((hb4.ext (e8.trans e14)).updN u21 (by omega)) [.bool sa,.slice Aa na ca] rfl rfl rfl (pf g1 3 rfl (by kernel_rfl) (lo aggInt ((hb4.ext (e8.trans e14)).updN u21 (by omega)) [.bool sb,.slice Ab nb cb] rfl rfl rfl ?_)))))))))
           have L169:ln (x*y)≤2097152:=Nat.le_trans (ln_mul Lx Ly) (by decide)
           refine cl (vs:= [.agg #[.bool sa,.slice Aa na ca],.agg #[.bool sb,.slice Ab nb cb]]) hw4 (g_zint_Mul hw4.size (hx.ext hw4) (lx_ la rfl) (hy.ext hw4) (lx_ lb rfl)) rfl (by kernel_rfl) fun xr172 v170 r172 e171 hw5=>?_
           obtain⟨s173,A173,n173,c173,rfl,z173⟩:=r172
           refine pf g12 0 rfl (by kernel_rfl) ?_
           have hb175:=(hb20.ext e171)
           refine so aggInt hb175 [.bool s173,.slice A173 n173 c173,F0,S0,I0,I0,I0,.string ⟨#[]⟩,I0] hw5 ge16 rfl rfl rfl rfl fun v174 hb176 u177 hw6=>(wl_nil (eo_block_normal (eo_then (cw_seq (sr (pf g1 0 rfl (by kernel_rfl) (wl_load rfl rfl (load_cell (fun _=>by kernel_rfl) ((((hb4.ext (e8.trans e14)).updN u21 (by omega)).ext e171).updN u177 (by omega)) rfl) (by decide) (wl_cmp rfl rfl rfl false (ge_f (by omega)) (by decide) (ne_ (cw_false rfl (cw_skip (eo_then (cw_seq ?_)))))))))))))
           refine cw_region (lo aggAns5 hb176 [.bool s173,.slice A173 n173 c173,F0,S0,I0,I0,I0,.string ⟨#[]⟩,I0] rfl rfl rfl ?_)
           have hb180:=((((hb9.ext e14).updN u21 (by omega)).ext e171).updN u177 (by omega))
           refine so aggAns5 hb180 [.bool s173,.slice A173 n173 c173,F0,S0,I0,I0,I0,.string ⟨#[]⟩,I0] hw6 ge10 rfl rfl rfl rfl fun v179 hb181 u182 hw7=>(ne_ (cw_ret (eo_ret [.agg #[.bool s173,.slice A173 n173 c173,F0,S0,I0,I0,I0,.string ⟨#[]⟩,I0]] rfl ⟨⟨_,rfl,load_agg aggAns5 hb181 [.bool s173,.slice A173 n173 c173,F0,S0,I0,I0,I0,.string ⟨#[]⟩,I0] rfl (bq rfl) rfl⟩,trivial⟩ ?_)))
           have hs:spec5 k x y z nn mm bs zs ys n1 n2=⟨x*y,0,0,0,0,[],0⟩:=by unfold spec5;rw [if_neg hbig,if_neg hk1,if_neg hk2,if_neg hk3,if_neg hk4,if_neg hk5,if_neg hk6,if_neg hk7,if_neg hk8,if_pos hk9]
           exact⟨_,rfl,AnsR.of hs ⟨_,_,_,_,_,_,_,_,rfl,((z173.updT hb175 u177).updT hb180 u182),((((((Zr.zero (w:=v7) (base:=w.heap.size)).ext e14).updT hb15 u21).ext e171).updT hb175 u177).updT hb180 u182),(lx_ L169 rfl),(Nat.le_trans (by decide:ln 0≤0) (by decide)),(fun c hc=>absurd hc (by simp))⟩,hw7⟩
          · 
           refine cw_region (wl_cmp rfl rfl rfl false (eq_f hk9) (by decide) (mv 1 rfl (ne_ (cw_false rfl (cw_seq ?_)))))
           by_cases hk10:k=10
           · 
            refine cw_region (wl_cmp rfl rfl rfl true (eq_t hk10) (by decide) (mv 1 rfl (ne_ (cw_true rfl (cw_region (pf g1 1 rfl (by kernel_rfl) (lo aggInt ((hb4.ext (e8.trans e14)).updN u21 (by omega)) [.bool sa,.slice Aa na ca] rfl rfl rfl (pf g1 3 rfl (by kernel_rfl) (lo aggInt ((hb4.ext (e8.trans e14)).updN u21 (by omega)) [.bool sb,.slice Ab nb cb] rfl rfl rfl (pf g1 5 rfl (by kernel_rfl) (lo aggInt ((hb4.ext (e8.trans e14)).updN u21 (by omega)) [.bool sd,.slice Ad nd cd] rfl rfl rfl ?_)))))))))))
            have L184:ln (x*y+z)≤2097153:=Nat.le_trans (ln_add (ln_mul Lx Ly) Lz) (by decide)
            refine cl (vs:= [.agg #[.bool sa,.slice Aa na ca],.agg #[.bool sb,.slice Ab nb cb],.agg #[.bool sd,.slice Ad nd cd]]) hw4 (g_zint_MulAdd hw4.size (hx.ext hw4) (lx_ la rfl) (hy.ext hw4) (lx_ lb rfl) (hz.ext hw4) (lx_ ld rfl)) rfl (by kernel_rfl) fun xr187 v185 r187 e186 hw5=>?_
            obtain⟨s188,A188,n188,c188,rfl,z188⟩:=r187
            refine pf g12 0 rfl (by kernel_rfl) ?_
            have hb190:=(hb20.ext e186)
            refine so aggInt hb190 [.bool s188,.slice A188 n188 c188,F0,S0,I0,I0,I0,.string ⟨#[]⟩,I0] hw5 ge16 rfl rfl rfl rfl fun v189 hb191 u192 hw6=>(wl_nil (eo_block_normal (eo_then (cw_seq (sr (pf g1 0 rfl (by kernel_rfl) (wl_load rfl rfl (load_cell (fun _=>by kernel_rfl) ((((hb4.ext (e8.trans e14)).updN u21 (by omega)).ext e186).updN u192 (by omega)) rfl) (by decide) (wl_cmp rfl rfl rfl false (ge_f (by omega)) (by decide) (ne_ (cw_false rfl (cw_skip (eo_then (cw_seq ?_)))))))))))))
            refine cw_region (lo aggAns5 hb191 [.bool s188,.slice A188 n188 c188,F0,S0,I0,I0,I0,.string ⟨#[]⟩,I0] rfl rfl rfl ?_)
            have hb195:=((((hb9.ext e14).updN u21 (by omega)).ext e186).updN u192 (by omega))
            refine so aggAns5 hb195 [.bool s188,.slice A188 n188 c188,F0,S0,I0,I0,I0,.string ⟨#[]⟩,I0] hw6 ge10 rfl rfl rfl rfl fun v194 hb196 u197 hw7=>(ne_ (cw_ret (eo_ret [.agg #[.bool s188,.slice A188 n188 c188,F0,S0,I0,I0,I0,.string ⟨#[]⟩,I0]] rfl ⟨⟨_,rfl,load_agg aggAns5 hb196 [.bool s188,.slice A188 n188 c188,F0,S0,I0,I0,I0,.string ⟨#[]⟩,I0] rfl (bq rfl) rfl⟩,trivial⟩ ?_)))
            have hs:spec5 k x y z nn mm bs zs ys n1 n2=⟨x*y+z,0,0,0,0,[],0⟩:=by unfold spec5;rw [if_neg hbig,if_neg hk1,if_neg hk2,if_neg hk3,if_neg hk4,if_neg hk5,if_neg hk6,if_neg hk7,if_neg hk8,if_neg hk9,if_pos hk10]
            exact⟨_,rfl,AnsR.of hs ⟨_,_,_,_,_,_,_,_,rfl,((z188.updT hb190 u192).updT hb195 u197),((((((Zr.zero (w:=v7) (base:=w.heap.size)).ext e14).updT hb15 u21).ext e186).updT hb190 u192).updT hb195 u197),(lx_ L184 rfl),(Nat.le_trans (by decide:ln 0≤0) (by decide)),(fun c hc=>absurd hc (by simp))⟩,hw7⟩
           · 
            refine cw_region (wl_cmp rfl rfl rfl false (eq_f hk10) (by decide) (mv 1 rfl (ne_ (cw_false rfl (cw_seq ?_)))))
            by_cases hk11:k=11
            · 
             refine cw_region (wl_cmp rfl rfl rfl true (eq_t hk11) (by decide) (mv 1 rfl (ne_ (cw_true rfl (cw_region (pf g1 11 rfl (by kernel_rfl) (wl_load rfl rfl (load_cell (fun _=>by kernel_rfl) ((hb4.ext (e8.trans e14)).updN u21 (by omega)) rfl) (by decide) ?_)))))))
             have L199:ln (sumL ys)≤2097152:=(by have h:=ln_sumL hln2 n2;rw [List.take_of_length_le (by rw [hl2.len];exact Nat.le_refl _)] at h;omega)
             refine cl (vs:= [.slice C n2 c2]) hw4 (g_zint_Sum hw4.size (hl2.ext hw4) hn2 (fun i=>Nat.le_trans (hmb2 i) (by decide))) rfl (by kernel_rfl) fun xr202 v200 r202 e201 hw5=>?_
             obtain⟨s203,A203,n203,c203,rfl,z203⟩:=r202
             refine pf g12 0 rfl (by kernel_rfl) ?_
             have hb205:=(hb20.ext e201)
             refine so aggInt hb205 [.bool s203,.slice A203 n203 c203,F0,S0,I0,I0,I0,.string ⟨#[]⟩,I0] hw5 ge16 rfl rfl rfl rfl fun v204 hb206 u207 hw6=>(wl_nil (eo_block_normal (eo_then (cw_seq (sr (pf g1 0 rfl (by kernel_rfl) (wl_load rfl rfl (load_cell (fun _=>by kernel_rfl) ((((hb4.ext (e8.trans e14)).updN u21 (by omega)).ext e201).updN u207 (by omega)) rfl) (by decide) (wl_cmp rfl rfl rfl false (ge_f (by omega)) (by decide) (ne_ (cw_false rfl (cw_skip (eo_then (cw_seq ?_)))))))))))))
             refine cw_region (lo aggAns5 hb206 [.bool s203,.slice A203 n203 c203,F0,S0,I0,I0,I0,.string ⟨#[]⟩,I0] rfl rfl rfl ?_)
             have hb210:=((((hb9.ext e14).updN u21 (by omega)).ext e201).updN u207 (by omega))
             refine so aggAns5 hb210 [.bool s203,.slice A203 n203 c203,F0,S0,I0,I0,I0,.string ⟨#[]⟩,I0] hw6 ge10 rfl rfl rfl rfl fun v209 hb211 u212 hw7=>(ne_ (cw_ret (eo_ret [.agg #[.bool s203,.slice A203 n203 c203,F0,S0,I0,I0,I0,.string ⟨#[]⟩,I0]] rfl ⟨⟨_,rfl,load_agg aggAns5 hb211 [.bool s203,.slice A203 n203 c203,F0,S0,I0,I0,I0,.string ⟨#[]⟩,I0] rfl (bq rfl) rfl⟩,trivial⟩ ?_)))
             have hs:spec5 k x y z nn mm bs zs ys n1 n2=⟨sumL ys,0,0,0,0,[],0⟩:=by unfold spec5;rw [if_neg hbig,if_neg hk1,if_neg hk2,if_neg hk3,if_neg hk4,if_neg hk5,if_neg hk6,if_neg hk7,if_neg hk8,if_neg hk9,if_neg hk10,if_pos hk11]
             exact⟨_,rfl,AnsR.of hs ⟨_,_,_,_,_,_,_,_,rfl,((z203.updT hb205 u207).updT hb210 u212),((((((Zr.zero (w:=v7) (base:=w.heap.size)).ext e14).updT hb15 u21).ext e201).updT hb205 u207).updT hb210 u212),(lx_ L199 rfl),(Nat.le_trans (by decide:ln 0≤0) (by decide)),(fun c hc=>absurd hc (by simp))⟩,hw7⟩
            · 
             refine cw_region (wl_cmp rfl rfl rfl false (eq_f hk11) (by decide) (mv 1 rfl (ne_ (cw_false rfl (cw_seq ?_)))))
             by_cases hk12:k=12
             · 
              refine cw_region (wl_cmp rfl rfl rfl true (eq_t hk12) (by decide) (mv 1 rfl (ne_ (cw_true rfl (cw_region (pf g1 10 rfl (by kernel_rfl) (wl_load rfl rfl (load_cell (fun _=>by kernel_rfl) ((hb4.ext (e8.trans e14)).updN u21 (by omega)) rfl) (by decide) (pf g1 11 rfl (by kernel_rfl) (wl_load rfl rfl (load_cell (fun _=>by kernel_rfl) ((hb4.ext (e8.trans e14)).updN u21 (by omega)) rfl) (by decide) ?_)))))))))
              have L214:ln (vD zs ys n1 n2)≤3145728:=(by have h:=ln_vD (n:=n1) (m:=n2) hln1 hln2;omega)
              refine cl (vs:= [.slice A n1 c1,.slice C n2 c2]) hw4 (j_zint_Dot hw4.size (hl.ext hw4) hn1 hmb (hl2.ext hw4) hmb2) rfl (by kernel_rfl) fun xr217 v215 r217 e216 hw5=>?_
              obtain⟨_,_,rfl,⟨s219,A219,n219,c219,rfl,z219⟩,rfl⟩:=r217
              refine mv 1 rfl (pu (v:= .agg #[.bool s219,.slice A219 n219 c219]) rfl (by kernel_rfl) (pu (v:= .int .i64 (eD n1 n2)) rfl (by kernel_rfl) (pf g12 0 rfl (by kernel_rfl) ?_)))
              have hb221:=(hb20.ext e216)
              refine so aggInt hb221 [.bool s219,.slice A219 n219 c219,F0,S0,I0,I0,I0,.string ⟨#[]⟩,I0] hw5 ge16 rfl rfl rfl rfl fun v220 hb222 u223 hw6=>(pf g12 8 rfl (by kernel_rfl) (wl_stored1 rfl rfl rfl (fun _=>by kernel_rfl) rfl hb222 (bq rfl) rfl [.bool s219,.slice A219 n219 c219,F0,S0,I0,I0,I0,.string ⟨#[]⟩,.int .i64 (eD n1 n2)] rfl fun v225 hb227 u228 hs229=>?_))
              have hw7:=u228.ext hw6 ge16
              refine wl_nil (eo_block_normal (eo_then (cw_seq (sr (pf g1 0 rfl (by kernel_rfl) (wl_load rfl rfl (load_cell (fun _=>by kernel_rfl) (((((hb4.ext (e8.trans e14)).updN u21 (by omega)).ext e216).updN u223 (by omega)).updN u228 (by omega)) rfl) (by decide) (wl_cmp rfl rfl rfl false (ge_f (by omega)) (by decide) (ne_ (cw_false rfl (cw_skip (eo_then (sr (lo aggAns5 hb227 [.bool s219,.slice A219 n219 c219,F0,S0,I0,I0,I0,.string ⟨#[]⟩,.int .i64 (eD n1 n2)] rfl rfl rfl ?_)))))))))))))
              have hb231:=(((((hb9.ext e14).updN u21 (by omega)).ext e216).updN u223 (by omega)).updN u228 (by omega))
              refine so aggAns5 hb231 [.bool s219,.slice A219 n219 c219,F0,S0,I0,I0,I0,.string ⟨#[]⟩,.int .i64 (eD n1 n2)] hw7 ge10 rfl rfl rfl rfl fun v230 hb232 u233 hw8=>(ne_ (cw_ret (eo_ret [.agg #[.bool s219,.slice A219 n219 c219,F0,S0,I0,I0,I0,.string ⟨#[]⟩,.int .i64 (eD n1 n2)]] rfl ⟨⟨_,rfl,load_agg aggAns5 hb232 [.bool s219,.slice A219 n219 c219,F0,S0,I0,I0,I0,.string ⟨#[]⟩,.int .i64 (eD n1 n2)] rfl (bq rfl) rfl⟩,trivial⟩ ?_)))
              have hs:spec5 k x y z nn mm bs zs ys n1 n2=⟨vD zs ys n1 n2,0,0,0,0,[],eD n1 n2⟩:=by unfold spec5;rw [if_neg hbig,if_neg hk1,if_neg hk2,if_neg hk3,if_neg hk4,if_neg hk5,if_neg hk6,if_neg hk7,if_neg hk8,if_neg hk9,if_neg hk10,if_neg hk11,if_pos hk12]
              exact⟨_,rfl,AnsR.of hs ⟨_,_,_,_,_,_,_,_,rfl,(((z219.updT hb221 u223).updT hb222 u228).updT hb231 u233),(((((((Zr.zero (w:=v7) (base:=w.heap.size)).ext e14).updT hb15 u21).ext e216).updT hb221 u223).updT hb222 u228).updT hb231 u233),(lx_ L214 rfl),(Nat.le_trans (by decide:ln 0≤0) (by decide)),(fun c hc=>absurd hc (by simp))⟩,hw8⟩
             · 
              refine cw_region (wl_cmp rfl rfl rfl false (eq_f hk12) (by decide) (mv 1 rfl (ne_ (cw_false rfl (cw_seq ?_)))))
              by_cases hk13:k=13
              · 
               refine cw_region (wl_cmp rfl rfl rfl true (eq_t hk13) (by decide) (mv 1 rfl (ne_ (cw_true rfl (cw_region (pf g1 1 rfl (by kernel_rfl) (lo aggInt ((hb4.ext (e8.trans e14)).updN u21 (by omega)) [.bool sa,.slice Aa na ca] rfl rfl rfl (pf g1 7 rfl (by kernel_rfl) (wl_load rfl rfl (load_cell (fun _=>by kernel_rfl) ((hb4.ext (e8.trans e14)).updN u21 (by omega)) rfl) (by decide) ?_)))))))))
               have L235:ln (vP x nn)≤268435457:=ln_vP Lx
               refine cl (vs:= [.agg #[.bool sa,.slice Aa na ca],.int .i64 nn]) hw4 (j_zint_Pow hw4.size (hx.ext hw4) (lx_ la rfl)) rfl (by kernel_rfl) fun xr238 v236 r238 e237 hw5=>?_
               obtain⟨_,_,rfl,⟨s240,A240,n240,c240,rfl,z240⟩,rfl⟩:=r238
               refine mv 1 rfl (pu (v:= .agg #[.bool s240,.slice A240 n240 c240]) rfl (by kernel_rfl) (pu (v:= .int .i64 (eP nn)) rfl (by kernel_rfl) (pf g12 0 rfl (by kernel_rfl) ?_)))
               have hb242:=(hb20.ext e237)
               refine so aggInt hb242 [.bool s240,.slice A240 n240 c240,F0,S0,I0,I0,I0,.string ⟨#[]⟩,I0] hw5 ge16 rfl rfl rfl rfl fun v241 hb243 u244 hw6=>(pf g12 8 rfl (by kernel_rfl) (wl_stored1 rfl rfl rfl (fun _=>by kernel_rfl) rfl hb243 (bq rfl) rfl [.bool s240,.slice A240 n240 c240,F0,S0,I0,I0,I0,.string ⟨#[]⟩,.int .i64 (eP nn)] rfl fun v246 hb248 u249 hs250=>?_))
               have hw7:=u249.ext hw6 ge16
               refine wl_nil (eo_block_normal (eo_then (cw_seq (sr (pf g1 0 rfl (by kernel_rfl) (wl_load rfl rfl (load_cell (fun _=>by kernel_rfl) (((((hb4.ext (e8.trans e14)).updN u21 (by omega)).ext e237).updN u244 (by omega)).updN u249 (by omega)) rfl) (by decide) (wl_cmp rfl rfl rfl false (ge_f (by omega)) (by decide) (ne_ (cw_false rfl (cw_skip (eo_then (sr (lo aggAns5 hb248 [.bool s240,.slice A240 n240 c240,F0,S0,I0,I0,I0,.string ⟨#[]⟩,.int .i64 (eP nn)] rfl rfl rfl ?_)))))))))))))
               have hb252:=(((((hb9.ext e14).updN u21 (by omega)).ext e237).updN u244 (by omega)).updN u249 (by omega))
               refine so aggAns5 hb252 [.bool s240,.slice A240 n240 c240,F0,S0,I0,I0,I0,.string ⟨#[]⟩,.int .i64 (eP nn)] hw7 ge10 rfl rfl rfl rfl fun v251 hb253 u254 hw8=>(ne_ (cw_ret (eo_ret [.agg #[.bool s240,.slice A240 n240 c240,F0,S0,I0,I0,I0,.string ⟨#[]⟩,.int .i64 (eP nn)]] rfl ⟨⟨_,rfl,load_agg aggAns5 hb253 [.bool s240,.slice A240 n240 c240,F0,S0,I0,I0,I0,.string ⟨#[]⟩,.int .i64 (eP nn)] rfl (bq rfl) rfl⟩,trivial⟩ ?_)))
               have hs:spec5 k x y z nn mm bs zs ys n1 n2=⟨vP x nn,0,0,0,0,[],eP nn⟩:=by unfold spec5;rw [if_neg hbig,if_neg hk1,if_neg hk2,if_neg hk3,if_neg hk4,if_neg hk5,if_neg hk6,if_neg hk7,if_neg hk8,if_neg hk9,if_neg hk10,if_neg hk11,if_neg hk12,if_pos hk13]
               exact⟨_,rfl,AnsR.of hs ⟨_,_,_,_,_,_,_,_,rfl,(((z240.updT hb242 u244).updT hb243 u249).updT hb252 u254),(((((((Zr.zero (w:=v7) (base:=w.heap.size)).ext e14).updT hb15 u21).ext e237).updT hb242 u244).updT hb243 u249).updT hb252 u254),(lx_ L235 rfl),(Nat.le_trans (by decide:ln 0≤0) (by decide)),(fun c hc=>absurd hc (by simp))⟩,hw8⟩
              · 
               refine cw_region (wl_cmp rfl rfl rfl false (eq_f hk13) (by decide) (mv 1 rfl (ne_ (cw_false rfl (cw_skip (eo_block_normal (eo_then (cw_seq (sr (pf g1 0 rfl (by kernel_rfl) (wl_load rfl rfl (load_cell (fun _=>by kernel_rfl) ((hb4.ext (e8.trans e14)).updN u21 (by omega)) rfl) (by decide) (wl_cmp rfl rfl rfl false (ge_f (by omega)) (by decide) (wl_nil ?_)))))))))))))
               refine eo_then (cw_false rfl (cw_skip (eo_then (sr (lo aggAns5 hb20 [F0,S0,F0,S0,I0,I0,I0,.string ⟨#[]⟩,I0] rfl rfl rfl ?_)))))
               have hb257:=((hb9.ext e14).updN u21 (by omega))
               refine so aggAns5 hb257 [F0,S0,F0,S0,I0,I0,I0,.string ⟨#[]⟩,I0] hw4 ge10 rfl rfl rfl rfl fun v256 hb258 u259 hw5=>(ne_ (cw_ret (eo_ret [.agg #[F0,S0,F0,S0,I0,I0,I0,.string ⟨#[]⟩,I0]] rfl ⟨⟨_,rfl,load_agg aggAns5 hb258 [F0,S0,F0,S0,I0,I0,I0,.string ⟨#[]⟩,I0] rfl (bq rfl) rfl⟩,trivial⟩ ?_)))
               have hs:spec5 k x y z nn mm bs zs ys n1 n2=⟨0,0,0,0,0,[],0⟩:=by unfold spec5;rw [if_neg hbig,if_neg hk1,if_neg hk2,if_neg hk3,if_neg hk4,if_neg hk5,if_neg hk6,if_neg hk7,if_neg hk8,if_neg hk9,if_neg hk10,if_neg hk11,if_neg hk12,if_neg hk13]
               exact⟨_,rfl,AnsR.of hs ⟨_,_,_,_,_,_,_,_,rfl,((((Zr.zero (w:=v7) (base:=w.heap.size)).ext e14).updT hb15 u21).updT hb257 u259),((((Zr.zero (w:=v7) (base:=w.heap.size)).ext e14).updT hb15 u21).updT hb257 u259),(Nat.le_trans (by decide:ln 0≤0) (by decide)),(Nat.le_trans (by decide:ln 0≤0) (by decide)),(fun c hc=>absurd hc (by simp))⟩,hw5⟩
theorem g_asked {w:World}{b:Nat}(hb:b≤w.heap.size){k x y z nn mm:Int}{bs:List Nat}{zs ys:List Int}{n1 n2:Nat}{v:Value}(h:Op5 w k x y z nn mm bs zs ys n1 n2 v) (hS:Signs w) (hn1:n1≤1048576) (hn2:n2≤1048576) (hbs:∀b,b∈bs→b<256) (hlen:bs.length≤1048576) (hm1: -9223372036854775808≤mm) (hm2:mm≤9223372036854775807):
  Calls Tryz.prog 10 #[v] w (Gv w (AnsR b (spec5 k x y z nn mm bs zs ys n1 n2))):=by
 obtain⟨sa,Aa,na,ca,sb,Ab,nb,cb,sd,Ad,nd,cd,A,c1,ms,C,c2,ms2,rfl,h1,h2,h3,h4,h5,h6,h7,h8,h9,h10⟩:=h
 exact (g_askedI h1 h2 h3 h4 h5 h6 h7 h8 h9 h10 hS hn1 hn2 hbs hlen hm1 hm2).mono (Gv.imp (AnsR.imp hb))
set_option maxHeartbeats 16000000 in
set_option maxRecDepth 20000 in
theorem g_toldMoreI {w:World}{k nn mm:Int}{bs:List Nat}{A C:Option Addr}{n1 c1 n2 c2:Nat}{zs ys:List Int}{ms ms2:List Nat}{sa:Bool}{Aa:Option Addr}{na ca:Nat}{x:Int}{sb:Bool}{Ab:Option Addr}{nb cb:Nat}{y:Int}{sd:Bool}{Ad:Option Addr}{nd cd:Nat}{z:Int}(hx:Zi w sa Aa na ca x) (la:na≤1048576) (hy:Zi w sb Ab nb cb y) (lb:nb≤1048576) (hz:Zi w sd Ad nd cd z) (ld:nd≤1048576) (hl:Zl w A n1 c1 zs ms) (hmb:∀i,ms.getD i 0≤1048576) (hl2:Zl w C n2 c2 ys ms2) (hmb2:∀i,ms2.getD i 0≤1048576) (hbs:∀b,b∈bs→b<256) (hlen:bs.length≤1048576):
    Calls Tryz.prog 47 #[.agg #[.int .i64 k,.bool sa,.slice Aa na ca,.bool sb,.slice Ab nb cb,.bool sd,.slice Ad nd cd,.int .i64 nn,.int .i64 mm,.string (strB bs),.slice A n1 c1,.slice C n2 c2]] w (Gv w (AnsR w.heap.size (spec5b k x y bs))):=by
 have Lx:ln x≤1048576:=Nat.le_trans hx.ln la
 have Ly:ln y≤1048576:=Nat.le_trans hy.ln lb
 have Lz:ln z≤1048576:=Nat.le_trans hz.ln ld
 have hln1:∀i,ln (zs.getD i 0)≤1048576:=ln_getD5 hl hmb
 have hln2:∀i,ln (ys.getD i 0)≤1048576:=ln_getD5 hl2 hmb2
 refine sx_enter Tryz.func47 rfl (n:=102) rfl (bq rfl) (args:= [.agg #[.int .i64 k,.bool sa,.slice Aa na ca,.bool sb,.slice Ab nb cb,.bool sd,.slice Ad nd cd,.int .i64 nn,.int .i64 mm,.string (strB bs),.slice A n1 c1,.slice C n2 c2]]) (cw_keep [(0,.agg #[.int .i64 k,.bool sa,.slice Aa na ca,.bool sb,.slice Ab nb cb,.bool sd,.slice Ad nd cd,.int .i64 nn,.int .i64 mm,.string (strB bs),.slice A n1 c1,.slice C n2 c2])] ⟨rfl,trivial⟩ (sr (bx [.int .i64 k,.bool sa,.slice Aa na ca,.bool sb,.slice Ab nb cb,.bool sd,.slice Ad nd cd,.int .i64 nn,.int .i64 mm,.string (strB bs),.slice A n1 c1,.slice C n2 c2] (Ext.refl w) rfl rfl rfl fun g1 v2 hb4 ge5 e3 hw1=>(alq [F0,S0,F0,S0,I0,I0,I0,.string ⟨#[]⟩,I0] hw1 hb4.lt (fun _=>by kernel_rfl) rfl fun g6 v7 hb9 ge10 q11 e8 hw2=>(ne_ (sr (pu (v:= .agg #[F0,S0,F0,S0,I0,I0,I0,.string ⟨#[]⟩,I0]) rfl (by kernel_rfl) (alq [F0,S0,F0,S0,I0,I0,I0,.string ⟨#[]⟩,I0] hw2 hb9.lt (fun _=>by kernel_rfl) rfl fun g12 v13 hb15 ge16 q17 e14 hw3=>(so aggAns5 hb15 [F0,S0,F0,S0,I0,I0,I0,.string ⟨#[]⟩,I0] hw3 ge16 rfl rfl rfl rfl fun v18 hb20 u21 hw4=>(ne_ (cw_seq (sr (pf g1 0 rfl (by kernel_rfl) ?_)))))))))))))
 refine wl_load rfl rfl (load_cell (fun _=>by kernel_rfl) ((hb4.ext (e8.trans e14)).updN u21 (by omega)) rfl) (by decide) (ne_ (cw_block (cw_seq ?_)))
 by_cases hk14:k=14
 · 
  refine cw_region (wl_cmp rfl rfl rfl true (eq_t hk14) (by decide) (mv 1 rfl (ne_ (cw_true rfl (cw_region (pf g1 1 rfl (by kernel_rfl) (lo aggInt ((hb4.ext (e8.trans e14)).updN u21 (by omega)) [.bool sa,.slice Aa na ca] rfl rfl rfl (pf g1 3 rfl (by kernel_rfl) (lo aggInt ((hb4.ext (e8.trans e14)).updN u21 (by omega)) [.bool sb,.slice Ab nb cb] rfl rfl rfl ?_)))))))))
  have L23:ln (qT x y)≤1048576:=ln_qT Lx
  have L24:ln (rT x y)≤1048576:=ln_rT Lx
  refine cl (vs:= [.agg #[.bool sa,.slice Aa na ca],.agg #[.bool sb,.slice Ab nb cb]]) hw4 (j_ref5_Trunc hw4.size (hx.ext hw4) (lx_ la rfl) (hy.ext hw4) (lx_ lb rfl)) rfl (by kernel_rfl) fun xr27 v25 r27 e26 hw5=>?_
  obtain⟨_,_,_,rfl,⟨s29,A29,n29,c29,rfl,z29⟩,⟨s30,A30,n30,c30,rfl,z30⟩,rfl⟩:=r27
  refine mv 1 rfl (pu (v:= .agg #[.bool s29,.slice A29 n29 c29]) rfl (by kernel_rfl) (pu (v:= .agg #[.bool s30,.slice A30 n30 c30]) rfl (by kernel_rfl) (pu (v:= .int .i64 (eZ y)) rfl (by kernel_rfl) (pf g12 0 rfl (by kernel_rfl) ?_))))
  have hb32:=(hb20.ext e26)
  refine so aggInt hb32 [.bool s29,.slice A29 n29 c29,F0,S0,I0,I0,I0,.string ⟨#[]⟩,I0] hw5 ge16 rfl rfl rfl rfl fun v31 hb33 u34 hw6=>(pf g12 2 rfl (by kernel_rfl) (so aggInt hb33 [.bool s29,.slice A29 n29 c29,.bool s30,.slice A30 n30 c30,I0,I0,I0,.string ⟨#[]⟩,I0] hw6 ge16 rfl rfl rfl rfl fun v36 hb38 u39 hw7=>(pf g12 8 rfl (by kernel_rfl) (wl_stored1 rfl rfl rfl (fun _=>by kernel_rfl) rfl hb38 (bq rfl) rfl [.bool s29,.slice A29 n29 c29,.bool s30,.slice A30 n30 c30,I0,I0,I0,.string ⟨#[]⟩,.int .i64 (eZ y)] rfl fun v41 hb43 u44 hs45=>?_))))
  have hw8:=u44.ext hw7 ge16
  refine wl_nil (eo_block_normal (eo_then (sr (lo aggAns5 hb43 [.bool s29,.slice A29 n29 c29,.bool s30,.slice A30 n30 c30,I0,I0,I0,.string ⟨#[]⟩,.int .i64 (eZ y)] rfl rfl rfl ?_))))
  have hb47:=((((((hb9.ext e14).updN u21 (by omega)).ext e26).updN u34 (by omega)).updN u39 (by omega)).updN u44 (by omega))
  refine so aggAns5 hb47 [.bool s29,.slice A29 n29 c29,.bool s30,.slice A30 n30 c30,I0,I0,I0,.string ⟨#[]⟩,.int .i64 (eZ y)] hw8 ge10 rfl rfl rfl rfl fun v46 hb48 u49 hw9=>(ne_ (cw_ret (eo_ret [.agg #[.bool s29,.slice A29 n29 c29,.bool s30,.slice A30 n30 c30,I0,I0,I0,.string ⟨#[]⟩,.int .i64 (eZ y)]] rfl ⟨⟨_,rfl,load_agg aggAns5 hb48 [.bool s29,.slice A29 n29 c29,.bool s30,.slice A30 n30 c30,I0,I0,I0,.string ⟨#[]⟩,.int .i64 (eZ y)] rfl (bq rfl) rfl⟩,trivial⟩ ?_)))
  have hs:spec5b k x y bs=⟨qT x y,rT x y,0,0,0,[],eZ y⟩:=by unfold spec5b;rw [if_pos hk14]
  exact⟨_,rfl,AnsR.of hs ⟨_,_,_,_,_,_,_,_,rfl,((((z29.updT hb32 u34).updT hb33 u39).updT hb38 u44).updT hb47 u49),((((z30.updT hb32 u34).updT hb33 u39).updT hb38 u44).updT hb47 u49),(lx_ L23 rfl),(lx_ L24 rfl),(fun c hc=>absurd hc (by simp))⟩,hw9⟩
 · 
  refine cw_region (wl_cmp rfl rfl rfl false (eq_f hk14) (by decide) (mv 1 rfl (ne_ (cw_false rfl (cw_seq ?_)))))
  by_cases hk15:k=15
  · 
   refine cw_region (wl_cmp rfl rfl rfl true (eq_t hk15) (by decide) (mv 1 rfl (ne_ (cw_true rfl (cw_region (pf g1 1 rfl (by kernel_rfl) (lo aggInt ((hb4.ext (e8.trans e14)).updN u21 (by omega)) [.bool sa,.slice Aa na ca] rfl rfl rfl (pf g1 3 rfl (by kernel_rfl) (lo aggInt ((hb4.ext (e8.trans e14)).updN u21 (by omega)) [.bool sb,.slice Ab nb cb] rfl rfl rfl ?_)))))))))
   have L51:ln (qF x y)≤1048578:=ln_qF Lx
   have L52:ln (rF x y)≤2097153:=ln_rF Lx Ly
   refine cl (vs:= [.agg #[.bool sa,.slice Aa na ca],.agg #[.bool sb,.slice Ab nb cb]]) hw4 (j_ref5_Floor hw4.size (hx.ext hw4) (lx_ la rfl) (hy.ext hw4) (lx_ lb rfl)) rfl (by kernel_rfl) fun xr55 v53 r55 e54 hw5=>?_
   obtain⟨_,_,_,rfl,⟨s57,A57,n57,c57,rfl,z57⟩,⟨s58,A58,n58,c58,rfl,z58⟩,rfl⟩:=r55
   refine mv 1 rfl (pu (v:= .agg #[.bool s57,.slice A57 n57 c57]) rfl (by kernel_rfl) (pu (v:= .agg #[.bool s58,.slice A58 n58 c58]) rfl (by kernel_rfl) (pu (v:= .int .i64 (eZ y)) rfl (by kernel_rfl) (pf g12 0 rfl (by kernel_rfl) ?_))))
   have hb60:=(hb20.ext e54)
   refine so aggInt hb60 [.bool s57,.slice A57 n57 c57,F0,S0,I0,I0,I0,.string ⟨#[]⟩,I0] hw5 ge16 rfl rfl rfl rfl fun v59 hb61 u62 hw6=>(pf g12 2 rfl (by kernel_rfl) (so aggInt hb61 [.bool s57,.slice A57 n57 c57,.bool s58,.slice A58 n58 c58,I0,I0,I0,.string ⟨#[]⟩,I0] hw6 ge16 rfl rfl rfl rfl fun v64 hb66 u67 hw7=>(pf g12 8 rfl (by kernel_rfl) (wl_stored1 rfl rfl rfl (fun _=>by kernel_rfl) rfl hb66 (bq rfl) rfl [.bool s57,.slice A57 n57 c57,.bool s58,.slice A58 n58 c58,I0,I0,I0,.string ⟨#[]⟩,.int .i64 (eZ y)] rfl fun v69 hb71 u72 hs73=>?_))))
   have hw8:=u72.ext hw7 ge16
   refine wl_nil (eo_block_normal (eo_then (sr (lo aggAns5 hb71 [.bool s57,.slice A57 n57 c57,.bool s58,.slice A58 n58 c58,I0,I0,I0,.string ⟨#[]⟩,.int .i64 (eZ y)] rfl rfl rfl ?_))))
   have hb75:=((((((hb9.ext e14).updN u21 (by omega)).ext e54).updN u62 (by omega)).updN u67 (by omega)).updN u72 (by omega))
   refine so aggAns5 hb75 [.bool s57,.slice A57 n57 c57,.bool s58,.slice A58 n58 c58,I0,I0,I0,.string ⟨#[]⟩,.int .i64 (eZ y)] hw8 ge10 rfl rfl rfl rfl fun v74 hb76 u77 hw9=>(ne_ (cw_ret (eo_ret [.agg #[.bool s57,.slice A57 n57 c57,.bool s58,.slice A58 n58 c58,I0,I0,I0,.string ⟨#[]⟩,.int .i64 (eZ y)]] rfl ⟨⟨_,rfl,load_agg aggAns5 hb76 [.bool s57,.slice A57 n57 c57,.bool s58,.slice A58 n58 c58,I0,I0,I0,.string ⟨#[]⟩,.int .i64 (eZ y)] rfl (bq rfl) rfl⟩,trivial⟩ ?_)))
   have hs:spec5b k x y bs=⟨qF x y,rF x y,0,0,0,[],eZ y⟩:=by unfold spec5b;rw [if_neg hk14,if_pos hk15]
   exact⟨_,rfl,AnsR.of hs ⟨_,_,_,_,_,_,_,_,rfl,((((z57.updT hb60 u62).updT hb61 u67).updT hb66 u72).updT hb75 u77),((((z58.updT hb60 u62).updT hb61 u67).updT hb66 u72).updT hb75 u77),(lx_ L51 rfl),(lx_ L52 rfl),(fun c hc=>absurd hc (by simp))⟩,hw9⟩
  · 
   refine cw_region (wl_cmp rfl rfl rfl false (eq_f hk15) (by decide) (mv 1 rfl (ne_ (cw_false rfl (cw_seq ?_)))))
   by_cases hk16:k=16
   · 
    refine cw_region (wl_cmp rfl rfl rfl true (eq_t hk16) (by decide) (mv 1 rfl (ne_ (cw_true rfl (cw_region (pf g1 1 rfl (by kernel_rfl) (lo aggInt ((hb4.ext (e8.trans e14)).updN u21 (by omega)) [.bool sa,.slice Aa na ca] rfl rfl rfl (pf g1 3 rfl (by kernel_rfl) (lo aggInt ((hb4.ext (e8.trans e14)).updN u21 (by omega)) [.bool sb,.slice Ab nb cb] rfl rfl rfl ?_)))))))))
    have L79:ln (qE x y)≤1048578:=ln_qE Lx
    have L80:ln (rEu x y)≤1048576:=ln_rEu Ly
    refine cl (vs:= [.agg #[.bool sa,.slice Aa na ca],.agg #[.bool sb,.slice Ab nb cb]]) hw4 (j_ref5_Euclid hw4.size (hx.ext hw4) (lx_ la rfl) (hy.ext hw4) (lx_ lb rfl)) rfl (by kernel_rfl) fun xr83 v81 r83 e82 hw5=>?_
    obtain⟨_,_,_,rfl,⟨s85,A85,n85,c85,rfl,z85⟩,⟨s86,A86,n86,c86,rfl,z86⟩,rfl⟩:=r83
    refine mv 1 rfl (pu (v:= .agg #[.bool s85,.slice A85 n85 c85]) rfl (by kernel_rfl) (pu (v:= .agg #[.bool s86,.slice A86 n86 c86]) rfl (by kernel_rfl) (pu (v:= .int .i64 (eZ y)) rfl (by kernel_rfl) (pf g12 0 rfl (by kernel_rfl) ?_))))
    have hb88:=(hb20.ext e82)
    refine so aggInt hb88 [.bool s85,.slice A85 n85 c85,F0,S0,I0,I0,I0,.string ⟨#[]⟩,I0] hw5 ge16 rfl rfl rfl rfl fun v87 hb89 u90 hw6=>(pf g12 2 rfl (by kernel_rfl) (so aggInt hb89 [.bool s85,.slice A85 n85 c85,.bool s86,.slice A86 n86 c86,I0,I0,I0,.string ⟨#[]⟩,I0] hw6 ge16 rfl rfl rfl rfl fun v92 hb94 u95 hw7=>(pf g12 8 rfl (by kernel_rfl) (wl_stored1 rfl rfl rfl (fun _=>by kernel_rfl) rfl hb94 (bq rfl) rfl [.bool s85,.slice A85 n85 c85,.bool s86,.slice A86 n86 c86,I0,I0,I0,.string ⟨#[]⟩,.int .i64 (eZ y)] rfl fun v97 hb99 u100 hs101=>?_))))
    have hw8:=u100.ext hw7 ge16
    refine wl_nil (eo_block_normal (eo_then (sr (lo aggAns5 hb99 [.bool s85,.slice A85 n85 c85,.bool s86,.slice A86 n86 c86,I0,I0,I0,.string ⟨#[]⟩,.int .i64 (eZ y)] rfl rfl rfl ?_))))
    have hb103:=((((((hb9.ext e14).updN u21 (by omega)).ext e82).updN u90 (by omega)).updN u95 (by omega)).updN u100 (by omega))
    refine so aggAns5 hb103 [.bool s85,.slice A85 n85 c85,.bool s86,.slice A86 n86 c86,I0,I0,I0,.string ⟨#[]⟩,.int .i64 (eZ y)] hw8 ge10 rfl rfl rfl rfl fun v102 hb104 u105 hw9=>(ne_ (cw_ret (eo_ret [.agg #[.bool s85,.slice A85 n85 c85,.bool s86,.slice A86 n86 c86,I0,I0,I0,.string ⟨#[]⟩,.int .i64 (eZ y)]] rfl ⟨⟨_,rfl,load_agg aggAns5 hb104 [.bool s85,.slice A85 n85 c85,.bool s86,.slice A86 n86 c86,I0,I0,I0,.string ⟨#[]⟩,.int .i64 (eZ y)] rfl (bq rfl) rfl⟩,trivial⟩ ?_)))
    have hs:spec5b k x y bs=⟨qE x y,rEu x y,0,0,0,[],eZ y⟩:=by unfold spec5b;rw [if_neg hk14,if_neg hk15,if_pos hk16]
    exact⟨_,rfl,AnsR.of hs ⟨_,_,_,_,_,_,_,_,rfl,((((z85.updT hb88 u90).updT hb89 u95).updT hb94 u100).updT hb103 u105),((((z86.updT hb88 u90).updT hb89 u95).updT hb94 u100).updT hb103 u105),(lx_ L79 rfl),(lx_ L80 rfl),(fun c hc=>absurd hc (by simp))⟩,hw9⟩
   · 
    refine cw_region (wl_cmp rfl rfl rfl false (eq_f hk16) (by decide) (mv 1 rfl (ne_ (cw_false rfl (cw_seq ?_)))))
    by_cases hk17:k=17
    · 
     refine cw_region (wl_cmp rfl rfl rfl true (eq_t hk17) (by decide) (mv 1 rfl (ne_ (cw_true rfl (cw_region (pf g1 1 rfl (by kernel_rfl) (lo aggInt ((hb4.ext (e8.trans e14)).updN u21 (by omega)) [.bool sa,.slice Aa na ca] rfl rfl rfl (pf g1 3 rfl (by kernel_rfl) (lo aggInt ((hb4.ext (e8.trans e14)).updN u21 (by omega)) [.bool sb,.slice Ab nb cb] rfl rfl rfl ?_)))))))))
     have L107:ln (vX x y)≤1048576:=ln_vX Lx
     refine cl (vs:= [.agg #[.bool sa,.slice Aa na ca],.agg #[.bool sb,.slice Ab nb cb]]) hw4 (j_ref5_Exact hw4.size (hx.ext hw4) (lx_ la rfl) (hy.ext hw4) (lx_ lb rfl)) rfl (by kernel_rfl) fun xr110 v108 r110 e109 hw5=>?_
     obtain⟨_,_,rfl,⟨s112,A112,n112,c112,rfl,z112⟩,rfl⟩:=r110
     refine mv 1 rfl (pu (v:= .agg #[.bool s112,.slice A112 n112 c112]) rfl (by kernel_rfl) (pu (v:= .int .i64 (eX x y)) rfl (by kernel_rfl) (pf g12 0 rfl (by kernel_rfl) ?_)))
     have hb114:=(hb20.ext e109)
     refine so aggInt hb114 [.bool s112,.slice A112 n112 c112,F0,S0,I0,I0,I0,.string ⟨#[]⟩,I0] hw5 ge16 rfl rfl rfl rfl fun v113 hb115 u116 hw6=>(pf g12 8 rfl (by kernel_rfl) (wl_stored1 rfl rfl rfl (fun _=>by kernel_rfl) rfl hb115 (bq rfl) rfl [.bool s112,.slice A112 n112 c112,F0,S0,I0,I0,I0,.string ⟨#[]⟩,.int .i64 (eX x y)] rfl fun v118 hb120 u121 hs122=>?_))
     have hw7:=u121.ext hw6 ge16
     refine wl_nil (eo_block_normal (eo_then (sr (lo aggAns5 hb120 [.bool s112,.slice A112 n112 c112,F0,S0,I0,I0,I0,.string ⟨#[]⟩,.int .i64 (eX x y)] rfl rfl rfl ?_))))
     have hb124:=(((((hb9.ext e14).updN u21 (by omega)).ext e109).updN u116 (by omega)).updN u121 (by omega))
     refine so aggAns5 hb124 [.bool s112,.slice A112 n112 c112,F0,S0,I0,I0,I0,.string ⟨#[]⟩,.int .i64 (eX x y)] hw7 ge10 rfl rfl rfl rfl fun v123 hb125 u126 hw8=>(ne_ (cw_ret (eo_ret [.agg #[.bool s112,.slice A112 n112 c112,F0,S0,I0,I0,I0,.string ⟨#[]⟩,.int .i64 (eX x y)]] rfl ⟨⟨_,rfl,load_agg aggAns5 hb125 [.bool s112,.slice A112 n112 c112,F0,S0,I0,I0,I0,.string ⟨#[]⟩,.int .i64 (eX x y)] rfl (bq rfl) rfl⟩,trivial⟩ ?_)))
     have hs:spec5b k x y bs=⟨vX x y,0,0,0,0,[],eX x y⟩:=by unfold spec5b;rw [if_neg hk14,if_neg hk15,if_neg hk16,if_pos hk17]
     exact⟨_,rfl,AnsR.of hs ⟨_,_,_,_,_,_,_,_,rfl,(((z112.updT hb114 u116).updT hb115 u121).updT hb124 u126),(((((((Zr.zero (w:=v7) (base:=w.heap.size)).ext e14).updT hb15 u21).ext e109).updT hb114 u116).updT hb115 u121).updT hb124 u126),(lx_ L107 rfl),(Nat.le_trans (by decide:ln 0≤0) (by decide)),(fun c hc=>absurd hc (by simp))⟩,hw8⟩
    · 
     refine cw_region (wl_cmp rfl rfl rfl false (eq_f hk17) (by decide) (mv 1 rfl (ne_ (cw_false rfl (cw_seq ?_)))))
     by_cases hk18:k=18
     · 
      refine cw_region (wl_cmp rfl rfl rfl true (eq_t hk18) (by decide) (mv 1 rfl (ne_ (cw_true rfl (cw_region (pf g1 1 rfl (by kernel_rfl) (lo aggInt ((hb4.ext (e8.trans e14)).updN u21 (by omega)) [.bool sa,.slice Aa na ca] rfl rfl rfl (pf g1 3 rfl (by kernel_rfl) (lo aggInt ((hb4.ext (e8.trans e14)).updN u21 (by omega)) [.bool sb,.slice Ab nb cb] rfl rfl rfl ?_)))))))))
      have L128:ln (rEu x y)≤1048576:=ln_rEu Ly
      refine cl (vs:= [.agg #[.bool sa,.slice Aa na ca],.agg #[.bool sb,.slice Ab nb cb]]) hw4 (j_ref5_Mod hw4.size (hx.ext hw4) (lx_ la rfl) (hy.ext hw4) (lx_ lb rfl)) rfl (by kernel_rfl) fun xr131 v129 r131 e130 hw5=>?_
      obtain⟨_,_,rfl,⟨s133,A133,n133,c133,rfl,z133⟩,rfl⟩:=r131
      refine mv 1 rfl (pu (v:= .agg #[.bool s133,.slice A133 n133 c133]) rfl (by kernel_rfl) (pu (v:= .int .i64 (eZ y)) rfl (by kernel_rfl) (pf g12 0 rfl (by kernel_rfl) ?_)))
      have hb135:=(hb20.ext e130)
      refine so aggInt hb135 [.bool s133,.slice A133 n133 c133,F0,S0,I0,I0,I0,.string ⟨#[]⟩,I0] hw5 ge16 rfl rfl rfl rfl fun v134 hb136 u137 hw6=>(pf g12 8 rfl (by kernel_rfl) (wl_stored1 rfl rfl rfl (fun _=>by kernel_rfl) rfl hb136 (bq rfl) rfl [.bool s133,.slice A133 n133 c133,F0,S0,I0,I0,I0,.string ⟨#[]⟩,.int .i64 (eZ y)] rfl fun v139 hb141 u142 hs143=>?_))
      have hw7:=u142.ext hw6 ge16
      refine wl_nil (eo_block_normal (eo_then (sr (lo aggAns5 hb141 [.bool s133,.slice A133 n133 c133,F0,S0,I0,I0,I0,.string ⟨#[]⟩,.int .i64 (eZ y)] rfl rfl rfl ?_))))
      have hb145:=(((((hb9.ext e14).updN u21 (by omega)).ext e130).updN u137 (by omega)).updN u142 (by omega))
      refine so aggAns5 hb145 [.bool s133,.slice A133 n133 c133,F0,S0,I0,I0,I0,.string ⟨#[]⟩,.int .i64 (eZ y)] hw7 ge10 rfl rfl rfl rfl fun v144 hb146 u147 hw8=>(ne_ (cw_ret (eo_ret [.agg #[.bool s133,.slice A133 n133 c133,F0,S0,I0,I0,I0,.string ⟨#[]⟩,.int .i64 (eZ y)]] rfl ⟨⟨_,rfl,load_agg aggAns5 hb146 [.bool s133,.slice A133 n133 c133,F0,S0,I0,I0,I0,.string ⟨#[]⟩,.int .i64 (eZ y)] rfl (bq rfl) rfl⟩,trivial⟩ ?_)))
      have hs:spec5b k x y bs=⟨rEu x y,0,0,0,0,[],eZ y⟩:=by unfold spec5b;rw [if_neg hk14,if_neg hk15,if_neg hk16,if_neg hk17,if_pos hk18]
      exact⟨_,rfl,AnsR.of hs ⟨_,_,_,_,_,_,_,_,rfl,(((z133.updT hb135 u137).updT hb136 u142).updT hb145 u147),(((((((Zr.zero (w:=v7) (base:=w.heap.size)).ext e14).updT hb15 u21).ext e130).updT hb135 u137).updT hb136 u142).updT hb145 u147),(lx_ L128 rfl),(Nat.le_trans (by decide:ln 0≤0) (by decide)),(fun c hc=>absurd hc (by simp))⟩,hw8⟩
     · 
      refine cw_region (wl_cmp rfl rfl rfl false (eq_f hk18) (by decide) (mv 1 rfl (ne_ (cw_false rfl (cw_seq ?_)))))
      by_cases hk19:k=19
      · 
       refine cw_region (wl_cmp rfl rfl rfl true (eq_t hk19) (by decide) (mv 1 rfl (ne_ (cw_true rfl (cw_region (pf g1 1 rfl (by kernel_rfl) (lo aggInt ((hb4.ext (e8.trans e14)).updN u21 (by omega)) [.bool sa,.slice Aa na ca] rfl rfl rfl (pf g1 3 rfl (by kernel_rfl) (lo aggInt ((hb4.ext (e8.trans e14)).updN u21 (by omega)) [.bool sb,.slice Ab nb cb] rfl rfl rfl ?_)))))))))
       have L149:ln (vS x y)≤1048577:=ln_vS Ly
       refine cl (vs:= [.agg #[.bool sa,.slice Aa na ca],.agg #[.bool sb,.slice Ab nb cb]]) hw4 (j_ref5_Sym hw4.size (hx.ext hw4) (lx_ la rfl) (hy.ext hw4) (lx_ lb rfl)) rfl (by kernel_rfl) fun xr152 v150 r152 e151 hw5=>?_
       obtain⟨_,_,rfl,⟨s154,A154,n154,c154,rfl,z154⟩,rfl⟩:=r152
       refine mv 1 rfl (pu (v:= .agg #[.bool s154,.slice A154 n154 c154]) rfl (by kernel_rfl) (pu (v:= .int .i64 (eZ y)) rfl (by kernel_rfl) (pf g12 0 rfl (by kernel_rfl) ?_)))
       have hb156:=(hb20.ext e151)
       refine so aggInt hb156 [.bool s154,.slice A154 n154 c154,F0,S0,I0,I0,I0,.string ⟨#[]⟩,I0] hw5 ge16 rfl rfl rfl rfl fun v155 hb157 u158 hw6=>(pf g12 8 rfl (by kernel_rfl) (wl_stored1 rfl rfl rfl (fun _=>by kernel_rfl) rfl hb157 (bq rfl) rfl [.bool s154,.slice A154 n154 c154,F0,S0,I0,I0,I0,.string ⟨#[]⟩,.int .i64 (eZ y)] rfl fun v160 hb162 u163 hs164=>?_))
       have hw7:=u163.ext hw6 ge16
       refine wl_nil (eo_block_normal (eo_then (sr (lo aggAns5 hb162 [.bool s154,.slice A154 n154 c154,F0,S0,I0,I0,I0,.string ⟨#[]⟩,.int .i64 (eZ y)] rfl rfl rfl ?_))))
       have hb166:=(((((hb9.ext e14).updN u21 (by omega)).ext e151).updN u158 (by omega)).updN u163 (by omega))
       refine so aggAns5 hb166 [.bool s154,.slice A154 n154 c154,F0,S0,I0,I0,I0,.string ⟨#[]⟩,.int .i64 (eZ y)] hw7 ge10 rfl rfl rfl rfl fun v165 hb167 u168 hw8=>(ne_ (cw_ret (eo_ret [.agg #[.bool s154,.slice A154 n154 c154,F0,S0,I0,I0,I0,.string ⟨#[]⟩,.int .i64 (eZ y)]] rfl ⟨⟨_,rfl,load_agg aggAns5 hb167 [.bool s154,.slice A154 n154 c154,F0,S0,I0,I0,I0,.string ⟨#[]⟩,.int .i64 (eZ y)] rfl (bq rfl) rfl⟩,trivial⟩ ?_)))
       have hs:spec5b k x y bs=⟨vS x y,0,0,0,0,[],eZ y⟩:=by unfold spec5b;rw [if_neg hk14,if_neg hk15,if_neg hk16,if_neg hk17,if_neg hk18,if_pos hk19]
       exact⟨_,rfl,AnsR.of hs ⟨_,_,_,_,_,_,_,_,rfl,(((z154.updT hb156 u158).updT hb157 u163).updT hb166 u168),(((((((Zr.zero (w:=v7) (base:=w.heap.size)).ext e14).updT hb15 u21).ext e151).updT hb156 u158).updT hb157 u163).updT hb166 u168),(lx_ L149 rfl),(Nat.le_trans (by decide:ln 0≤0) (by decide)),(fun c hc=>absurd hc (by simp))⟩,hw8⟩
      · 
       refine cw_region (wl_cmp rfl rfl rfl false (eq_f hk19) (by decide) (mv 1 rfl (ne_ (cw_false rfl (cw_seq ?_)))))
       by_cases hk20:k=20
       · 
        refine cw_region (wl_cmp rfl rfl rfl true (eq_t hk20) (by decide) (mv 1 rfl (ne_ (cw_true rfl (cw_region (pf g1 1 rfl (by kernel_rfl) (lo aggInt ((hb4.ext (e8.trans e14)).updN u21 (by omega)) [.bool sa,.slice Aa na ca] rfl rfl rfl (cl (vs:= [.agg #[.bool sa,.slice Aa na ca]]) hw4 (g_ref5_Text (hx.ext hw4) (lx_ la rfl)) rfl (by kernel_rfl) fun xr172 v170 r172 e171 hw5=>?_))))))))
        obtain rfl:=r172
        refine pf g12 7 rfl (by kernel_rfl) ?_
        have hb174:=(hb20.ext e171)
        refine wl_stored1 rfl rfl rfl (fun _=>by kernel_rfl) rfl hb174 (bq rfl) rfl [F0,S0,F0,S0,I0,I0,I0,.string (strB (txtZ x)),I0] rfl fun v173 hb175 u176 hs177=>?_
        have hw6:=u176.ext hw5 ge16
        refine wl_nil (eo_block_normal (eo_then (sr (lo aggAns5 hb175 [F0,S0,F0,S0,I0,I0,I0,.string (strB (txtZ x)),I0] rfl rfl rfl ?_))))
        have hb179:=((((hb9.ext e14).updN u21 (by omega)).ext e171).updN u176 (by omega))
        refine so aggAns5 hb179 [F0,S0,F0,S0,I0,I0,I0,.string (strB (txtZ x)),I0] hw6 ge10 rfl rfl rfl rfl fun v178 hb180 u181 hw7=>(ne_ (cw_ret (eo_ret [.agg #[F0,S0,F0,S0,I0,I0,I0,.string (strB (txtZ x)),I0]] rfl ⟨⟨_,rfl,load_agg aggAns5 hb180 [F0,S0,F0,S0,I0,I0,I0,.string (strB (txtZ x)),I0] rfl (bq rfl) rfl⟩,trivial⟩ ?_)))
        have hs:spec5b k x y bs=⟨0,0,0,0,0,txtZ x,0⟩:=by unfold spec5b;rw [if_neg hk14,if_neg hk15,if_neg hk16,if_neg hk17,if_neg hk18,if_neg hk19,if_pos hk20]
        exact⟨_,rfl,AnsR.of hs ⟨_,_,_,_,_,_,_,_,rfl,((((((Zr.zero (w:=v7) (base:=w.heap.size)).ext e14).updT hb15 u21).ext e171).updT hb174 u176).updT hb179 u181),((((((Zr.zero (w:=v7) (base:=w.heap.size)).ext e14).updT hb15 u21).ext e171).updT hb174 u176).updT hb179 u181),(Nat.le_trans (by decide:ln 0≤0) (by decide)),(Nat.le_trans (by decide:ln 0≤0) (by decide)),txtZ_lt⟩,hw7⟩
       · 
        refine cw_region (wl_cmp rfl rfl rfl false (eq_f hk20) (by decide) (mv 1 rfl (ne_ (cw_false rfl (cw_seq ?_)))))
        by_cases hk21:k=21
        · 
         refine cw_region (wl_cmp rfl rfl rfl true (eq_t hk21) (by decide) (mv 1 rfl (ne_ (cw_true rfl (cw_region (pf g1 9 rfl (by kernel_rfl) (wl_load rfl rfl (load_cell (fun _=>by kernel_rfl) ((hb4.ext (e8.trans e14)).updN u21 (by omega)) rfl) (by decide) ?_)))))))
         have L183:ln (rV bs)≤1048576:=ln_rV hlen
         refine cl (vs:= [.string (strB bs)]) hw4 (g_ref5_Read hw4.size hbs hlen) rfl (by kernel_rfl) fun xr186 v184 r186 e185 hw5=>?_
         obtain⟨_,_,rfl,⟨s188,A188,n188,c188,rfl,z188⟩,rfl⟩:=r186
         refine mv 1 rfl (pu (v:= .agg #[.bool s188,.slice A188 n188 c188]) rfl (by kernel_rfl) (pu (v:= .int .i64 (rE bs)) rfl (by kernel_rfl) (pf g12 0 rfl (by kernel_rfl) ?_)))
         have hb190:=(hb20.ext e185)
         refine so aggInt hb190 [.bool s188,.slice A188 n188 c188,F0,S0,I0,I0,I0,.string ⟨#[]⟩,I0] hw5 ge16 rfl rfl rfl rfl fun v189 hb191 u192 hw6=>(pf g12 8 rfl (by kernel_rfl) (wl_stored1 rfl rfl rfl (fun _=>by kernel_rfl) rfl hb191 (bq rfl) rfl [.bool s188,.slice A188 n188 c188,F0,S0,I0,I0,I0,.string ⟨#[]⟩,.int .i64 (rE bs)] rfl fun v194 hb196 u197 hs198=>?_))
         have hw7:=u197.ext hw6 ge16
         refine wl_nil (eo_block_normal (eo_then (sr (lo aggAns5 hb196 [.bool s188,.slice A188 n188 c188,F0,S0,I0,I0,I0,.string ⟨#[]⟩,.int .i64 (rE bs)] rfl rfl rfl ?_))))
         have hb200:=(((((hb9.ext e14).updN u21 (by omega)).ext e185).updN u192 (by omega)).updN u197 (by omega))
         refine so aggAns5 hb200 [.bool s188,.slice A188 n188 c188,F0,S0,I0,I0,I0,.string ⟨#[]⟩,.int .i64 (rE bs)] hw7 ge10 rfl rfl rfl rfl fun v199 hb201 u202 hw8=>(ne_ (cw_ret (eo_ret [.agg #[.bool s188,.slice A188 n188 c188,F0,S0,I0,I0,I0,.string ⟨#[]⟩,.int .i64 (rE bs)]] rfl ⟨⟨_,rfl,load_agg aggAns5 hb201 [.bool s188,.slice A188 n188 c188,F0,S0,I0,I0,I0,.string ⟨#[]⟩,.int .i64 (rE bs)] rfl (bq rfl) rfl⟩,trivial⟩ ?_)))
         have hs:spec5b k x y bs=⟨rV bs,0,0,0,0,[],rE bs⟩:=by unfold spec5b;rw [if_neg hk14,if_neg hk15,if_neg hk16,if_neg hk17,if_neg hk18,if_neg hk19,if_neg hk20,if_pos hk21]
         exact⟨_,rfl,AnsR.of hs ⟨_,_,_,_,_,_,_,_,rfl,(((z188.updT hb190 u192).updT hb191 u197).updT hb200 u202),(((((((Zr.zero (w:=v7) (base:=w.heap.size)).ext e14).updT hb15 u21).ext e185).updT hb190 u192).updT hb191 u197).updT hb200 u202),(lx_ L183 rfl),(Nat.le_trans (by decide:ln 0≤0) (by decide)),(fun c hc=>absurd hc (by simp))⟩,hw8⟩
        · 
         refine cw_region (wl_cmp rfl rfl rfl false (eq_f hk21) (by decide) (mv 1 rfl (ne_ (cw_false rfl (cw_skip (eo_block_normal (eo_then (sr (lo aggAns5 hb20 [F0,S0,F0,S0,I0,I0,I0,.string ⟨#[]⟩,I0] rfl rfl rfl ?_)))))))))
         have hb205:=((hb9.ext e14).updN u21 (by omega))
         refine so aggAns5 hb205 [F0,S0,F0,S0,I0,I0,I0,.string ⟨#[]⟩,I0] hw4 ge10 rfl rfl rfl rfl fun v204 hb206 u207 hw5=>(ne_ (cw_ret (eo_ret [.agg #[F0,S0,F0,S0,I0,I0,I0,.string ⟨#[]⟩,I0]] rfl ⟨⟨_,rfl,load_agg aggAns5 hb206 [F0,S0,F0,S0,I0,I0,I0,.string ⟨#[]⟩,I0] rfl (bq rfl) rfl⟩,trivial⟩ ?_)))
         have hs:spec5b k x y bs=⟨0,0,0,0,0,[],0⟩:=by unfold spec5b;rw [if_neg hk14,if_neg hk15,if_neg hk16,if_neg hk17,if_neg hk18,if_neg hk19,if_neg hk20,if_neg hk21]
         exact⟨_,rfl,AnsR.of hs ⟨_,_,_,_,_,_,_,_,rfl,((((Zr.zero (w:=v7) (base:=w.heap.size)).ext e14).updT hb15 u21).updT hb205 u207),((((Zr.zero (w:=v7) (base:=w.heap.size)).ext e14).updT hb15 u21).updT hb205 u207),(Nat.le_trans (by decide:ln 0≤0) (by decide)),(Nat.le_trans (by decide:ln 0≤0) (by decide)),(fun c hc=>absurd hc (by simp))⟩,hw5⟩
theorem g_toldMore {w:World}{k nn mm:Int}{bs:List Nat}{A C:Option Addr}{n1 c1 n2 c2:Nat}{zs ys:List Int}{ms ms2:List Nat}{sa:Bool}{Aa:Option Addr}{na ca:Nat}{x:Int}{sb:Bool}{Ab:Option Addr}{nb cb:Nat}{y:Int}{sd:Bool}{Ad:Option Addr}{nd cd:Nat}{z:Int}{b:Nat}(hx:Zi w sa Aa na ca x) (la:na≤1048576) (hy:Zi w sb Ab nb cb y) (lb:nb≤1048576) (hz:Zi w sd Ad nd cd z) (ld:nd≤1048576) (hl:Zl w A n1 c1 zs ms) (hmb:∀i,ms.getD i 0≤1048576) (hl2:Zl w C n2 c2 ys ms2) (hmb2:∀i,ms2.getD i 0≤1048576) (hbs:∀b,b∈bs→b<256) (hlen:bs.length≤1048576) (hb:b≤w.heap.size):
  Calls Tryz.prog 47 #[.agg #[.int .i64 k,.bool sa,.slice Aa na ca,.bool sb,.slice Ab nb cb,.bool sd,.slice Ad nd cd,.int .i64 nn,.int .i64 mm,.string (strB bs),.slice A n1 c1,.slice C n2 c2]] w (Gv w (AnsR b (spec5b k x y bs))):=(g_toldMoreI hx la hy lb hz ld hl hmb hl2 hmb2 hbs hlen).mono (Gv.imp (AnsR.imp hb))
set_option maxHeartbeats 16000000 in
set_option maxRecDepth 20000 in
theorem g_toldI {w:World}{k nn mm:Int}{bs:List Nat}{A C:Option Addr}{n1 c1 n2 c2:Nat}{zs ys:List Int}{ms ms2:List Nat}{sa:Bool}{Aa:Option Addr}{na ca:Nat}{x:Int}{sb:Bool}{Ab:Option Addr}{nb cb:Nat}{y:Int}{sd:Bool}{Ad:Option Addr}{nd cd:Nat}{z:Int}(hx:Zi w sa Aa na ca x) (la:na≤1048576) (hy:Zi w sb Ab nb cb y) (lb:nb≤1048576) (hz:Zi w sd Ad nd cd z) (ld:nd≤1048576) (hl:Zl w A n1 c1 zs ms) (hmb:∀i,ms.getD i 0≤1048576) (hl2:Zl w C n2 c2 ys ms2) (hmb2:∀i,ms2.getD i 0≤1048576) (hn1:n1≤1048576) (hn2:n2≤1048576) (hbs:∀b,b∈bs→b<256) (hlen:bs.length≤1048576) (hm1: -9223372036854775808≤mm) (hm2:mm≤9223372036854775807):
    Calls Tryz.prog 9 #[.agg #[.int .i64 k,.bool sa,.slice Aa na ca,.bool sb,.slice Ab nb cb,.bool sd,.slice Ad nd cd,.int .i64 nn,.int .i64 mm,.string (strB bs),.slice A n1 c1,.slice C n2 c2]] w (Gv w (AnsR w.heap.size (spec5 k x y z nn mm bs zs ys n1 n2))):=by
 have Lx:ln x≤1048576:=Nat.le_trans hx.ln la
 have Ly:ln y≤1048576:=Nat.le_trans hy.ln lb
 have Lz:ln z≤1048576:=Nat.le_trans hz.ln ld
 have hln1:∀i,ln (zs.getD i 0)≤1048576:=ln_getD5 hl hmb
 have hln2:∀i,ln (ys.getD i 0)≤1048576:=ln_getD5 hl2 hmb2
 refine sx_enter Tryz.func9 rfl (n:=129) rfl (bq rfl) (args:= [.agg #[.int .i64 k,.bool sa,.slice Aa na ca,.bool sb,.slice Ab nb cb,.bool sd,.slice Ad nd cd,.int .i64 nn,.int .i64 mm,.string (strB bs),.slice A n1 c1,.slice C n2 c2]]) (cw_keep [(0,.agg #[.int .i64 k,.bool sa,.slice Aa na ca,.bool sb,.slice Ab nb cb,.bool sd,.slice Ad nd cd,.int .i64 nn,.int .i64 mm,.string (strB bs),.slice A n1 c1,.slice C n2 c2])] ⟨rfl,trivial⟩ (sr (bx [.int .i64 k,.bool sa,.slice Aa na ca,.bool sb,.slice Ab nb cb,.bool sd,.slice Ad nd cd,.int .i64 nn,.int .i64 mm,.string (strB bs),.slice A n1 c1,.slice C n2 c2] (Ext.refl w) rfl rfl rfl fun g1 v2 hb4 ge5 e3 hw1=>(alq [F0,S0,F0,S0,I0,I0,I0,.string ⟨#[]⟩,I0] hw1 hb4.lt (fun _=>by kernel_rfl) rfl fun g6 v7 hb9 ge10 q11 e8 hw2=>(ne_ (sr (pu (v:= .agg #[F0,S0,F0,S0,I0,I0,I0,.string ⟨#[]⟩,I0]) rfl (by kernel_rfl) (alq [F0,S0,F0,S0,I0,I0,I0,.string ⟨#[]⟩,I0] hw2 hb9.lt (fun _=>by kernel_rfl) rfl fun g12 v13 hb15 ge16 q17 e14 hw3=>(so aggAns5 hb15 [F0,S0,F0,S0,I0,I0,I0,.string ⟨#[]⟩,I0] hw3 ge16 rfl rfl rfl rfl fun v18 hb20 u21 hw4=>(ne_ (cw_seq (sr (pf g1 0 rfl (by kernel_rfl) ?_)))))))))))))
 refine wl_load rfl rfl (load_cell (fun _=>by kernel_rfl) ((hb4.ext (e8.trans e14)).updN u21 (by omega)) rfl) (by decide) (ne_ (cw_block (cw_seq ?_)))
 by_cases hbig:14≤k
 · 
  refine cw_region (wl_cmp rfl rfl rfl false (eq_f (by omega)) (by decide) (mv 1 rfl (ne_ (cw_false rfl (sr (wl_cmp rfl rfl rfl false (eq_f (by omega)) (by decide) (mv 1 rfl (ne_ (cw_false rfl (sr (wl_cmp rfl rfl rfl false (eq_f (by omega)) (by decide) (mv 1 rfl (wl_nil ?_)))))))))))))
  refine eo_then (cw_false rfl (sr (wl_cmp rfl rfl rfl false (eq_f (by omega)) (by decide) (mv 1 rfl (ne_ (cw_false rfl (sr (wl_cmp rfl rfl rfl false (eq_f (by omega)) (by decide) (mv 1 rfl (ne_ (cw_false rfl (sr (wl_cmp rfl rfl rfl false (eq_f (by omega)) (by decide) ?_)))))))))))))
  refine mv 1 rfl (ne_ (cw_false rfl (sr (wl_cmp rfl rfl rfl false (eq_f (by omega)) (by decide) (mv 1 rfl (ne_ (cw_false rfl (sr (wl_cmp rfl rfl rfl false (eq_f (by omega)) (by decide) (mv 1 rfl (ne_ (cw_false rfl (cw_seq ?_)))))))))))))
  refine cw_region (wl_cmp rfl rfl rfl false (eq_f (by omega)) (by decide) (mv 1 rfl (ne_ (cw_false rfl (sr (wl_cmp rfl rfl rfl false (eq_f (by omega)) (by decide) (mv 1 rfl (ne_ (cw_false rfl (sr (wl_cmp rfl rfl rfl false (eq_f (by omega)) (by decide) (mv 1 rfl (wl_nil ?_)))))))))))))
  refine eo_then (cw_false rfl (sr (wl_cmp rfl rfl rfl false (eq_f (by omega)) (by decide) (mv 1 rfl (ne_ (cw_false rfl (sr (wl_cmp rfl rfl rfl false (eq_f (by omega)) (by decide) (mv 1 rfl (ne_ (cw_false rfl (cw_skip (eo_block_normal ?_)))))))))))))
  refine eo_then (cw_seq (sr (pf g1 0 rfl (by kernel_rfl) (wl_load rfl rfl (load_cell (fun _=>by kernel_rfl) ((hb4.ext (e8.trans e14)).updN u21 (by omega)) rfl) (by decide) (wl_cmp rfl rfl rfl true (ge_t hbig) (by decide) (ne_ (cw_true rfl (sr (lo aggOp5 ((hb4.ext (e8.trans e14)).updN u21 (by omega)) [.int .i64 k,.bool sa,.slice Aa na ca,.bool sb,.slice Ab nb cb,.bool sd,.slice Ad nd cd,.int .i64 nn,.int .i64 mm,.string (strB bs),.slice A n1 c1,.slice C n2 c2] rfl rfl rfl (cl (vs:= [.agg #[.int .i64 k,.bool sa,.slice Aa na ca,.bool sb,.slice Ab nb cb,.bool sd,.slice Ad nd cd,.int .i64 nn,.int .i64 mm,.string (strB bs),.slice A n1 c1,.slice C n2 c2]]) hw4 (g_toldMore (hx.ext hw4) (lx_ la rfl) (hy.ext hw4) (lx_ lb rfl) (hz.ext hw4) (lx_ ld rfl) (hl.ext hw4) hmb (hl2.ext hw4) hmb2 hbs hlen hw4.size) rfl (by kernel_rfl) fun xr25 v23 r25 e24 hw5=>?_))))))))))
  obtain⟨s26,A26,n26,c26,t26,B26,m26,d26,rfl,zx26,zy26,lx26,ly26,lt26⟩:=r25
  have hb28:=(((hb9.ext e14).updN u21 (by omega)).ext e24)
  refine so aggAns5 hb28 [.bool s26,.slice A26 n26 c26,.bool t26,.slice B26 m26 d26,.int .i64 ((spec5b k x y bs).V),.int .i64 ((spec5b k x y bs).P),.int .i64 ((spec5b k x y bs).Q),.string (strB (spec5b k x y bs).S),.int .i64 ((spec5b k x y bs).E)] hw5 ge10 rfl rfl rfl rfl fun v27 hb29 u30 hw6=>(ne_ (cw_ret (eo_thenR (eo_ret [.agg #[.bool s26,.slice A26 n26 c26,.bool t26,.slice B26 m26 d26,.int .i64 ((spec5b k x y bs).V),.int .i64 ((spec5b k x y bs).P),.int .i64 ((spec5b k x y bs).Q),.string (strB (spec5b k x y bs).S),.int .i64 ((spec5b k x y bs).E)]] rfl ⟨⟨_,rfl,load_agg aggAns5 hb29 [.bool s26,.slice A26 n26 c26,.bool t26,.slice B26 m26 d26,.int .i64 ((spec5b k x y bs).V),.int .i64 ((spec5b k x y bs).P),.int .i64 ((spec5b k x y bs).Q),.string (strB (spec5b k x y bs).S),.int .i64 ((spec5b k x y bs).E)] rfl (bq rfl) rfl⟩,trivial⟩ ?_))))
  have hs:spec5 k x y z nn mm bs zs ys n1 n2=spec5b k x y bs:=by unfold spec5;rw [if_pos hbig]
  exact⟨_,rfl,AnsR.of hs ⟨_,_,_,_,_,_,_,_,rfl,(zx26.updT hb28 u30),(zy26.updT hb28 u30),lx26,ly26,lt26⟩,hw6⟩
 · 
  by_cases hk1:k=1
  · 
   refine cw_region (wl_cmp rfl rfl rfl true (eq_t hk1) (by decide) (mv 1 rfl (ne_ (cw_true rfl (cw_region (pf g1 1 rfl (by kernel_rfl) (lo aggInt ((hb4.ext (e8.trans e14)).updN u21 (by omega)) [.bool sa,.slice Aa na ca] rfl rfl rfl (cl (vs:= [.agg #[.bool sa,.slice Aa na ca]]) hw4 (g_ref5_Least hw4.size (hx.ext hw4) (lx_ la rfl)) rfl (by kernel_rfl) fun xr34 v32 r34 e33 hw5=>?_))))))))
   obtain⟨s35,A35,n35,c35,rfl,z35⟩:=r34
   refine pf g12 0 rfl (by kernel_rfl) ?_
   have hb37:=(hb20.ext e33)
   refine so aggInt hb37 [.bool s35,.slice A35 n35 c35,F0,S0,I0,I0,I0,.string ⟨#[]⟩,I0] hw5 ge16 rfl rfl rfl rfl fun v36 hb38 u39 hw6=>(wl_nil (eo_block_normal (eo_then (cw_seq (sr (pf g1 0 rfl (by kernel_rfl) (wl_load rfl rfl (load_cell (fun _=>by kernel_rfl) ((((hb4.ext (e8.trans e14)).updN u21 (by omega)).ext e33).updN u39 (by omega)) rfl) (by decide) (wl_cmp rfl rfl rfl false (ge_f (by omega)) (by decide) (ne_ (cw_false rfl (cw_skip (eo_then (cw_seq ?_)))))))))))))
   refine cw_region (lo aggAns5 hb38 [.bool s35,.slice A35 n35 c35,F0,S0,I0,I0,I0,.string ⟨#[]⟩,I0] rfl rfl rfl ?_)
   have hb42:=((((hb9.ext e14).updN u21 (by omega)).ext e33).updN u39 (by omega))
   refine so aggAns5 hb42 [.bool s35,.slice A35 n35 c35,F0,S0,I0,I0,I0,.string ⟨#[]⟩,I0] hw6 ge10 rfl rfl rfl rfl fun v41 hb43 u44 hw7=>(ne_ (cw_ret (eo_ret [.agg #[.bool s35,.slice A35 n35 c35,F0,S0,I0,I0,I0,.string ⟨#[]⟩,I0]] rfl ⟨⟨_,rfl,load_agg aggAns5 hb43 [.bool s35,.slice A35 n35 c35,F0,S0,I0,I0,I0,.string ⟨#[]⟩,I0] rfl (bq rfl) rfl⟩,trivial⟩ ?_)))
   have hs:spec5 k x y z nn mm bs zs ys n1 n2=⟨x,0,0,0,0,[],0⟩:=by unfold spec5;rw [if_neg hbig,if_pos hk1]
   exact⟨_,rfl,AnsR.of hs ⟨_,_,_,_,_,_,_,_,rfl,((z35.updT hb37 u39).updT hb42 u44),((((((Zr.zero (w:=v7) (base:=w.heap.size)).ext e14).updT hb15 u21).ext e33).updT hb37 u39).updT hb42 u44),(lx_ Lx rfl),(Nat.le_trans (by decide:ln 0≤0) (by decide)),(fun c hc=>absurd hc (by simp))⟩,hw7⟩
  · 
   refine cw_region (wl_cmp rfl rfl rfl false (eq_f hk1) (by decide) (mv 1 rfl (ne_ (cw_false rfl (cw_seq ?_)))))
   by_cases hk2:k=2
   · 
    refine cw_region (wl_cmp rfl rfl rfl true (eq_t hk2) (by decide) (mv 1 rfl (ne_ (cw_true rfl (cw_region (pf g1 8 rfl (by kernel_rfl) (wl_load rfl rfl (load_cell (fun _=>by kernel_rfl) ((hb4.ext (e8.trans e14)).updN u21 (by omega)) rfl) (by decide) ?_)))))))
    have L46:ln (mm)≤1:=len_wd_w5 (by omega)
    refine cl (vs:= [.int .i64 mm]) hw4 (g_ref5_Of hw4.size hm1 hm2) rfl (by kernel_rfl) fun xr49 v47 r49 e48 hw5=>?_
    obtain⟨s50,A50,n50,c50,rfl,z50⟩:=r49
    refine pf g12 0 rfl (by kernel_rfl) ?_
    have hb52:=(hb20.ext e48)
    refine so aggInt hb52 [.bool s50,.slice A50 n50 c50,F0,S0,I0,I0,I0,.string ⟨#[]⟩,I0] hw5 ge16 rfl rfl rfl rfl fun v51 hb53 u54 hw6=>(wl_nil (eo_block_normal (eo_then (cw_seq (sr (pf g1 0 rfl (by kernel_rfl) (wl_load rfl rfl (load_cell (fun _=>by kernel_rfl) ((((hb4.ext (e8.trans e14)).updN u21 (by omega)).ext e48).updN u54 (by omega)) rfl) (by decide) (wl_cmp rfl rfl rfl false (ge_f (by omega)) (by decide) (ne_ (cw_false rfl (cw_skip (eo_then (cw_seq ?_)))))))))))))
    refine cw_region (lo aggAns5 hb53 [.bool s50,.slice A50 n50 c50,F0,S0,I0,I0,I0,.string ⟨#[]⟩,I0] rfl rfl rfl ?_)
    have hb57:=((((hb9.ext e14).updN u21 (by omega)).ext e48).updN u54 (by omega))
    refine so aggAns5 hb57 [.bool s50,.slice A50 n50 c50,F0,S0,I0,I0,I0,.string ⟨#[]⟩,I0] hw6 ge10 rfl rfl rfl rfl fun v56 hb58 u59 hw7=>(ne_ (cw_ret (eo_ret [.agg #[.bool s50,.slice A50 n50 c50,F0,S0,I0,I0,I0,.string ⟨#[]⟩,I0]] rfl ⟨⟨_,rfl,load_agg aggAns5 hb58 [.bool s50,.slice A50 n50 c50,F0,S0,I0,I0,I0,.string ⟨#[]⟩,I0] rfl (bq rfl) rfl⟩,trivial⟩ ?_)))
    have hs:spec5 k x y z nn mm bs zs ys n1 n2=⟨mm,0,0,0,0,[],0⟩:=by unfold spec5;rw [if_neg hbig,if_neg hk1,if_pos hk2]
    exact⟨_,rfl,AnsR.of hs ⟨_,_,_,_,_,_,_,_,rfl,((z50.updT hb52 u54).updT hb57 u59),((((((Zr.zero (w:=v7) (base:=w.heap.size)).ext e14).updT hb15 u21).ext e48).updT hb52 u54).updT hb57 u59),(lx_ L46 rfl),(Nat.le_trans (by decide:ln 0≤0) (by decide)),(fun c hc=>absurd hc (by simp))⟩,hw7⟩
   · 
    refine cw_region (wl_cmp rfl rfl rfl false (eq_f hk2) (by decide) (mv 1 rfl (ne_ (cw_false rfl (cw_seq ?_)))))
    by_cases hk3:k=3
    · 
     refine cw_region (wl_cmp rfl rfl rfl true (eq_t hk3) (by decide) (mv 1 rfl (ne_ (cw_true rfl (cw_region (pf g1 1 rfl (by kernel_rfl) (lo aggInt ((hb4.ext (e8.trans e14)).updN u21 (by omega)) [.bool sa,.slice Aa na ca] rfl rfl rfl (cl (vs:= [.agg #[.bool sa,.slice Aa na ca]]) hw4 (g_ref5_Small (hx.ext hw4) (lx_ la rfl)) rfl (by kernel_rfl) fun xr63 v61 r63 e62 hw5=>?_))))))))
     obtain⟨_,_,rfl,rfl,rfl⟩:=r63
     refine mv 1 rfl (pu (v:= .int .i64 (smV x)) rfl (by kernel_rfl) (pu (v:= .int .i64 (smE x)) rfl (by kernel_rfl) (pf g12 4 rfl (by kernel_rfl) ?_)))
     have hb66:=(hb20.ext e62)
     refine wl_stored1 rfl rfl rfl (fun _=>by kernel_rfl) rfl hb66 (bq rfl) rfl [F0,S0,F0,S0,.int .i64 (smV x),I0,I0,.string ⟨#[]⟩,I0] rfl fun v65 hb67 u68 hs69=>?_
     have hw6:=u68.ext hw5 ge16
     refine pf g12 8 rfl (by kernel_rfl) (wl_stored1 rfl rfl rfl (fun _=>by kernel_rfl) rfl hb67 (bq rfl) rfl [F0,S0,F0,S0,.int .i64 (smV x),I0,I0,.string ⟨#[]⟩,.int .i64 (smE x)] rfl fun v70 hb72 u73 hs74=>?_)
     have hw7:=u73.ext hw6 ge16
     refine wl_nil (eo_block_normal (eo_then (cw_seq (sr (pf g1 0 rfl (by kernel_rfl) (wl_load rfl rfl (load_cell (fun _=>by kernel_rfl) (((((hb4.ext (e8.trans e14)).updN u21 (by omega)).ext e62).updN u68 (by omega)).updN u73 (by omega)) rfl) (by decide) (wl_cmp rfl rfl rfl false (ge_f (by omega)) (by decide) (ne_ (cw_false rfl (cw_skip (eo_then (sr (lo aggAns5 hb72 [F0,S0,F0,S0,.int .i64 (smV x),I0,I0,.string ⟨#[]⟩,.int .i64 (smE x)] rfl rfl rfl ?_)))))))))))))
     have hb76:=(((((hb9.ext e14).updN u21 (by omega)).ext e62).updN u68 (by omega)).updN u73 (by omega))
     refine so aggAns5 hb76 [F0,S0,F0,S0,.int .i64 (smV x),I0,I0,.string ⟨#[]⟩,.int .i64 (smE x)] hw7 ge10 rfl rfl rfl rfl fun v75 hb77 u78 hw8=>(ne_ (cw_ret (eo_ret [.agg #[F0,S0,F0,S0,.int .i64 (smV x),I0,I0,.string ⟨#[]⟩,.int .i64 (smE x)]] rfl ⟨⟨_,rfl,load_agg aggAns5 hb77 [F0,S0,F0,S0,.int .i64 (smV x),I0,I0,.string ⟨#[]⟩,.int .i64 (smE x)] rfl (bq rfl) rfl⟩,trivial⟩ ?_)))
     have hs:spec5 k x y z nn mm bs zs ys n1 n2=⟨0,0,smV x,0,0,[],smE x⟩:=by unfold spec5;rw [if_neg hbig,if_neg hk1,if_neg hk2,if_pos hk3]
     exact⟨_,rfl,AnsR.of hs ⟨_,_,_,_,_,_,_,_,rfl,(((((((Zr.zero (w:=v7) (base:=w.heap.size)).ext e14).updT hb15 u21).ext e62).updT hb66 u68).updT hb67 u73).updT hb76 u78),(((((((Zr.zero (w:=v7) (base:=w.heap.size)).ext e14).updT hb15 u21).ext e62).updT hb66 u68).updT hb67 u73).updT hb76 u78),(Nat.le_trans (by decide:ln 0≤0) (by decide)),(Nat.le_trans (by decide:ln 0≤0) (by decide)),(fun c hc=>absurd hc (by simp))⟩,hw8⟩
    · 
     refine cw_region (wl_cmp rfl rfl rfl false (eq_f hk3) (by decide) (mv 1 rfl (ne_ (cw_false rfl (cw_seq ?_)))))
     by_cases hk4:k=4
     · 
      refine cw_region (wl_cmp rfl rfl rfl true (eq_t hk4) (by decide) (mv 1 rfl (ne_ (cw_true rfl (sr (pf g1 1 rfl (by kernel_rfl) (lo aggInt ((hb4.ext (e8.trans e14)).updN u21 (by omega)) [.bool sa,.slice Aa na ca] rfl rfl rfl (cl (vs:= [.agg #[.bool sa,.slice Aa na ca]]) hw4 (g_ref5_Sign (hx.ext hw4) (lx_ la rfl)) rfl (by kernel_rfl) fun xr82 v80 r82 e81 hw5=>?_))))))))
      obtain rfl:=r82
      refine pf g12 4 rfl (by kernel_rfl) ?_
      have hb84:=(hb20.ext e81)
      refine wl_stored1 rfl rfl rfl (fun _=>by kernel_rfl) rfl hb84 (bq rfl) rfl [F0,S0,F0,S0,.int .i64 (scmp x 0),I0,I0,.string ⟨#[]⟩,I0] rfl fun v83 hb85 u86 hs87=>?_
      have hw6:=u86.ext hw5 ge16
      refine ne_ (sr (pf g1 1 rfl (by kernel_rfl) (lo aggInt ((((hb4.ext (e8.trans e14)).updN u21 (by omega)).ext e81).updN u86 (by omega)) [.bool sa,.slice Aa na ca] rfl rfl rfl (pf g1 3 rfl (by kernel_rfl) (lo aggInt ((((hb4.ext (e8.trans e14)).updN u21 (by omega)).ext e81).updN u86 (by omega)) [.bool sb,.slice Ab nb cb] rfl rfl rfl (cl (vs:= [.agg #[.bool sa,.slice Aa na ca],.agg #[.bool sb,.slice Ab nb cb]]) hw6 (g_ref5_Cmp (hx.ext hw6) (lx_ la rfl) (hy.ext hw6) (lx_ lb rfl)) rfl (by kernel_rfl) fun xr90 v88 r90 e89 hw7=>?_))))))
      obtain rfl:=r90
      refine pf g12 5 rfl (by kernel_rfl) ?_
      have hb92:=(hb85.ext e89)
      refine wl_stored1 rfl rfl rfl (fun _=>by kernel_rfl) rfl hb92 (bq rfl) rfl [F0,S0,F0,S0,.int .i64 (scmp x 0),.int .i64 (scmp x y),I0,.string ⟨#[]⟩,I0] rfl fun v91 hb93 u94 hs95=>?_
      have hw8:=u94.ext hw7 ge16
      refine ne_ (cw_region (pf g1 1 rfl (by kernel_rfl) (lo aggInt ((((((hb4.ext (e8.trans e14)).updN u21 (by omega)).ext e81).updN u86 (by omega)).ext e89).updN u94 (by omega)) [.bool sa,.slice Aa na ca] rfl rfl rfl (pf g1 3 rfl (by kernel_rfl) (lo aggInt ((((((hb4.ext (e8.trans e14)).updN u21 (by omega)).ext e81).updN u86 (by omega)).ext e89).updN u94 (by omega)) [.bool sb,.slice Ab nb cb] rfl rfl rfl (cl (vs:= [.agg #[.bool sa,.slice Aa na ca],.agg #[.bool sb,.slice Ab nb cb]]) hw8 (g_ref5_CmpAbs (hx.ext hw8) (lx_ la rfl) (hy.ext hw8) (lx_ lb rfl)) rfl (by kernel_rfl) fun xr98 v96 r98 e97 hw9=>?_))))))
      obtain rfl:=r98
      refine pf g12 6 rfl (by kernel_rfl) ?_
      have hb100:=(hb93.ext e97)
      refine wl_stored1 rfl rfl rfl (fun _=>by kernel_rfl) rfl hb100 (bq rfl) rfl [F0,S0,F0,S0,.int .i64 (scmp x 0),.int .i64 (scmp x y),.int .i64 (cmp3 (Int.natAbs x) (Int.natAbs y)),.string ⟨#[]⟩,I0] rfl fun v99 hb101 u102 hs103=>?_
      have hw10:=u102.ext hw9 ge16
      refine wl_nil (eo_block_normal (eo_then (cw_seq (sr (pf g1 0 rfl (by kernel_rfl) (wl_load rfl rfl (load_cell (fun _=>by kernel_rfl) ((((((((hb4.ext (e8.trans e14)).updN u21 (by omega)).ext e81).updN u86 (by omega)).ext e89).updN u94 (by omega)).ext e97).updN u102 (by omega)) rfl) (by decide) (wl_cmp rfl rfl rfl false (ge_f (by omega)) (by decide) (ne_ (cw_false rfl (cw_skip (eo_then (sr (lo aggAns5 hb101 [F0,S0,F0,S0,.int .i64 (scmp x 0),.int .i64 (scmp x y),.int .i64 (cmp3 (Int.natAbs x) (Int.natAbs y)),.string ⟨#[]⟩,I0] rfl rfl rfl ?_)))))))))))))
      have hb105:=((((((((hb9.ext e14).updN u21 (by omega)).ext e81).updN u86 (by omega)).ext e89).updN u94 (by omega)).ext e97).updN u102 (by omega))
      refine so aggAns5 hb105 [F0,S0,F0,S0,.int .i64 (scmp x 0),.int .i64 (scmp x y),.int .i64 (cmp3 (Int.natAbs x) (Int.natAbs y)),.string ⟨#[]⟩,I0] hw10 ge10 rfl rfl rfl rfl fun v104 hb106 u107 hw11=>(ne_ (cw_ret (eo_ret [.agg #[F0,S0,F0,S0,.int .i64 (scmp x 0),.int .i64 (scmp x y),.int .i64 (cmp3 (Int.natAbs x) (Int.natAbs y)),.string ⟨#[]⟩,I0]] rfl ⟨⟨_,rfl,load_agg aggAns5 hb106 [F0,S0,F0,S0,.int .i64 (scmp x 0),.int .i64 (scmp x y),.int .i64 (cmp3 (Int.natAbs x) (Int.natAbs y)),.string ⟨#[]⟩,I0] rfl (bq rfl) rfl⟩,trivial⟩ ?_)))
      have hs:spec5 k x y z nn mm bs zs ys n1 n2=⟨0,0,scmp x 0,scmp x y,cmp3 (Int.natAbs x) (Int.natAbs y),[],0⟩:=by unfold spec5;rw [if_neg hbig,if_neg hk1,if_neg hk2,if_neg hk3,if_pos hk4]
      exact⟨_,rfl,AnsR.of hs ⟨_,_,_,_,_,_,_,_,rfl,((((((((((Zr.zero (w:=v7) (base:=w.heap.size)).ext e14).updT hb15 u21).ext e81).updT hb84 u86).ext e89).updT hb92 u94).ext e97).updT hb100 u102).updT hb105 u107),((((((((((Zr.zero (w:=v7) (base:=w.heap.size)).ext e14).updT hb15 u21).ext e81).updT hb84 u86).ext e89).updT hb92 u94).ext e97).updT hb100 u102).updT hb105 u107),(Nat.le_trans (by decide:ln 0≤0) (by decide)),(Nat.le_trans (by decide:ln 0≤0) (by decide)),(fun c hc=>absurd hc (by simp))⟩,hw11⟩
     · 
      refine cw_region (wl_cmp rfl rfl rfl false (eq_f hk4) (by decide) (mv 1 rfl (ne_ (cw_false rfl (cw_seq ?_)))))
      by_cases hk5:k=5
      · 
       refine cw_region (wl_cmp rfl rfl rfl true (eq_t hk5) (by decide) (mv 1 rfl (ne_ (cw_true rfl (cw_region (pf g1 1 rfl (by kernel_rfl) (lo aggInt ((hb4.ext (e8.trans e14)).updN u21 (by omega)) [.bool sa,.slice Aa na ca] rfl rfl rfl ?_)))))))
       have L109:ln (-x)≤1048576:=(by rw [ln_neg];exact Lx)
       refine cl (vs:= [.agg #[.bool sa,.slice Aa na ca]]) hw4 (g_ref5_Neg hw4.size (hx.ext hw4) (lx_ la rfl)) rfl (by kernel_rfl) fun xr112 v110 r112 e111 hw5=>?_
       obtain⟨s113,A113,n113,c113,rfl,z113⟩:=r112
       refine pf g12 0 rfl (by kernel_rfl) ?_
       have hb115:=(hb20.ext e111)
       refine so aggInt hb115 [.bool s113,.slice A113 n113 c113,F0,S0,I0,I0,I0,.string ⟨#[]⟩,I0] hw5 ge16 rfl rfl rfl rfl fun v114 hb116 u117 hw6=>(wl_nil (eo_block_normal (eo_then (cw_seq (sr (pf g1 0 rfl (by kernel_rfl) (wl_load rfl rfl (load_cell (fun _=>by kernel_rfl) ((((hb4.ext (e8.trans e14)).updN u21 (by omega)).ext e111).updN u117 (by omega)) rfl) (by decide) (wl_cmp rfl rfl rfl false (ge_f (by omega)) (by decide) (ne_ (cw_false rfl (cw_skip (eo_then (cw_seq ?_)))))))))))))
       refine cw_region (lo aggAns5 hb116 [.bool s113,.slice A113 n113 c113,F0,S0,I0,I0,I0,.string ⟨#[]⟩,I0] rfl rfl rfl ?_)
       have hb120:=((((hb9.ext e14).updN u21 (by omega)).ext e111).updN u117 (by omega))
       refine so aggAns5 hb120 [.bool s113,.slice A113 n113 c113,F0,S0,I0,I0,I0,.string ⟨#[]⟩,I0] hw6 ge10 rfl rfl rfl rfl fun v119 hb121 u122 hw7=>(ne_ (cw_ret (eo_ret [.agg #[.bool s113,.slice A113 n113 c113,F0,S0,I0,I0,I0,.string ⟨#[]⟩,I0]] rfl ⟨⟨_,rfl,load_agg aggAns5 hb121 [.bool s113,.slice A113 n113 c113,F0,S0,I0,I0,I0,.string ⟨#[]⟩,I0] rfl (bq rfl) rfl⟩,trivial⟩ ?_)))
       have hs:spec5 k x y z nn mm bs zs ys n1 n2=⟨-x,0,0,0,0,[],0⟩:=by unfold spec5;rw [if_neg hbig,if_neg hk1,if_neg hk2,if_neg hk3,if_neg hk4,if_pos hk5]
       exact⟨_,rfl,AnsR.of hs ⟨_,_,_,_,_,_,_,_,rfl,((z113.updT hb115 u117).updT hb120 u122),((((((Zr.zero (w:=v7) (base:=w.heap.size)).ext e14).updT hb15 u21).ext e111).updT hb115 u117).updT hb120 u122),(lx_ L109 rfl),(Nat.le_trans (by decide:ln 0≤0) (by decide)),(fun c hc=>absurd hc (by simp))⟩,hw7⟩
      · 
       refine cw_region (wl_cmp rfl rfl rfl false (eq_f hk5) (by decide) (mv 1 rfl (ne_ (cw_false rfl (cw_seq ?_)))))
       by_cases hk6:k=6
       · 
        refine cw_region (wl_cmp rfl rfl rfl true (eq_t hk6) (by decide) (mv 1 rfl (ne_ (cw_true rfl (cw_region (pf g1 1 rfl (by kernel_rfl) (lo aggInt ((hb4.ext (e8.trans e14)).updN u21 (by omega)) [.bool sa,.slice Aa na ca] rfl rfl rfl ?_)))))))
        have L124:ln ((Int.natAbs x:Int))≤1048576:=(by rw [ln_abs];exact Lx)
        refine cl (vs:= [.agg #[.bool sa,.slice Aa na ca]]) hw4 (g_ref5_Abs hw4.size (hx.ext hw4) (lx_ la rfl)) rfl (by kernel_rfl) fun xr127 v125 r127 e126 hw5=>?_
        obtain⟨s128,A128,n128,c128,rfl,z128⟩:=r127
        refine pf g12 0 rfl (by kernel_rfl) ?_
        have hb130:=(hb20.ext e126)
        refine so aggInt hb130 [.bool s128,.slice A128 n128 c128,F0,S0,I0,I0,I0,.string ⟨#[]⟩,I0] hw5 ge16 rfl rfl rfl rfl fun v129 hb131 u132 hw6=>(wl_nil (eo_block_normal (eo_then (cw_seq (sr (pf g1 0 rfl (by kernel_rfl) (wl_load rfl rfl (load_cell (fun _=>by kernel_rfl) ((((hb4.ext (e8.trans e14)).updN u21 (by omega)).ext e126).updN u132 (by omega)) rfl) (by decide) (wl_cmp rfl rfl rfl false (ge_f (by omega)) (by decide) (ne_ (cw_false rfl (cw_skip (eo_then (cw_seq ?_)))))))))))))
        refine cw_region (lo aggAns5 hb131 [.bool s128,.slice A128 n128 c128,F0,S0,I0,I0,I0,.string ⟨#[]⟩,I0] rfl rfl rfl ?_)
        have hb135:=((((hb9.ext e14).updN u21 (by omega)).ext e126).updN u132 (by omega))
        refine so aggAns5 hb135 [.bool s128,.slice A128 n128 c128,F0,S0,I0,I0,I0,.string ⟨#[]⟩,I0] hw6 ge10 rfl rfl rfl rfl fun v134 hb136 u137 hw7=>(ne_ (cw_ret (eo_ret [.agg #[.bool s128,.slice A128 n128 c128,F0,S0,I0,I0,I0,.string ⟨#[]⟩,I0]] rfl ⟨⟨_,rfl,load_agg aggAns5 hb136 [.bool s128,.slice A128 n128 c128,F0,S0,I0,I0,I0,.string ⟨#[]⟩,I0] rfl (bq rfl) rfl⟩,trivial⟩ ?_)))
        have hs:spec5 k x y z nn mm bs zs ys n1 n2=⟨(Int.natAbs x:Int),0,0,0,0,[],0⟩:=by unfold spec5;rw [if_neg hbig,if_neg hk1,if_neg hk2,if_neg hk3,if_neg hk4,if_neg hk5,if_pos hk6]
        exact⟨_,rfl,AnsR.of hs ⟨_,_,_,_,_,_,_,_,rfl,((z128.updT hb130 u132).updT hb135 u137),((((((Zr.zero (w:=v7) (base:=w.heap.size)).ext e14).updT hb15 u21).ext e126).updT hb130 u132).updT hb135 u137),(lx_ L124 rfl),(Nat.le_trans (by decide:ln 0≤0) (by decide)),(fun c hc=>absurd hc (by simp))⟩,hw7⟩
       · 
        refine cw_region (wl_cmp rfl rfl rfl false (eq_f hk6) (by decide) (mv 1 rfl (ne_ (cw_false rfl (cw_seq ?_)))))
        by_cases hk7:k=7
        · 
         refine cw_region (wl_cmp rfl rfl rfl true (eq_t hk7) (by decide) (mv 1 rfl (ne_ (cw_true rfl (cw_region (pf g1 1 rfl (by kernel_rfl) (lo aggInt ((hb4.ext (e8.trans e14)).updN u21 (by omega)) [.bool sa,.slice Aa na ca] rfl rfl rfl (pf g1 3 rfl (by kernel_rfl) (lo aggInt ((hb4.ext (e8.trans e14)).updN u21 (by omega)) [.bool sb,.slice Ab nb cb] rfl rfl rfl ?_)))))))))
         have L139:ln (x+y)≤1048577:=Nat.le_trans (ln_add Lx Ly) (by decide)
         refine cl (vs:= [.agg #[.bool sa,.slice Aa na ca],.agg #[.bool sb,.slice Ab nb cb]]) hw4 (g_ref5_Add hw4.size (hx.ext hw4) (lx_ la rfl) (hy.ext hw4) (lx_ lb rfl)) rfl (by kernel_rfl) fun xr142 v140 r142 e141 hw5=>?_
         obtain⟨s143,A143,n143,c143,rfl,z143⟩:=r142
         refine pf g12 0 rfl (by kernel_rfl) ?_
         have hb145:=(hb20.ext e141)
         refine so aggInt hb145 [.bool s143,.slice A143 n143 c143,F0,S0,I0,I0,I0,.string ⟨#[]⟩,I0] hw5 ge16 rfl rfl rfl rfl fun v144 hb146 u147 hw6=>(wl_nil (eo_block_normal (eo_then (cw_seq (sr (pf g1 0 rfl (by kernel_rfl) (wl_load rfl rfl (load_cell (fun _=>by kernel_rfl) ((((hb4.ext (e8.trans e14)).updN u21 (by omega)).ext e141).updN u147 (by omega)) rfl) (by decide) (wl_cmp rfl rfl rfl false (ge_f (by omega)) (by decide) (ne_ (cw_false rfl (cw_skip (eo_then (cw_seq ?_)))))))))))))
         refine cw_region (lo aggAns5 hb146 [.bool s143,.slice A143 n143 c143,F0,S0,I0,I0,I0,.string ⟨#[]⟩,I0] rfl rfl rfl ?_)
         have hb150:=((((hb9.ext e14).updN u21 (by omega)).ext e141).updN u147 (by omega))
         refine so aggAns5 hb150 [.bool s143,.slice A143 n143 c143,F0,S0,I0,I0,I0,.string ⟨#[]⟩,I0] hw6 ge10 rfl rfl rfl rfl fun v149 hb151 u152 hw7=>(ne_ (cw_ret (eo_ret [.agg #[.bool s143,.slice A143 n143 c143,F0,S0,I0,I0,I0,.string ⟨#[]⟩,I0]] rfl ⟨⟨_,rfl,load_agg aggAns5 hb151 [.bool s143,.slice A143 n143 c143,F0,S0,I0,I0,I0,.string ⟨#[]⟩,I0] rfl (bq rfl) rfl⟩,trivial⟩ ?_)))
         have hs:spec5 k x y z nn mm bs zs ys n1 n2=⟨x+y,0,0,0,0,[],0⟩:=by unfold spec5;rw [if_neg hbig,if_neg hk1,if_neg hk2,if_neg hk3,if_neg hk4,if_neg hk5,if_neg hk6,if_pos hk7]
         exact⟨_,rfl,AnsR.of hs ⟨_,_,_,_,_,_,_,_,rfl,((z143.updT hb145 u147).updT hb150 u152),((((((Zr.zero (w:=v7) (base:=w.heap.size)).ext e14).updT hb15 u21).ext e141).updT hb145 u147).updT hb150 u152),(lx_ L139 rfl),(Nat.le_trans (by decide:ln 0≤0) (by decide)),(fun c hc=>absurd hc (by simp))⟩,hw7⟩
        · 
         refine cw_region (wl_cmp rfl rfl rfl false (eq_f hk7) (by decide) (mv 1 rfl (ne_ (cw_false rfl (cw_seq ?_)))))
         by_cases hk8:k=8
         · 
          refine cw_region (wl_cmp rfl rfl rfl true (eq_t hk8) (by decide) (mv 1 rfl (ne_ (cw_true rfl (cw_region (pf g1 1 rfl (by kernel_rfl) (lo aggInt ((hb4.ext (e8.trans e14)).updN u21 (by omega)) [.bool sa,.slice Aa na ca] rfl rfl rfl (pf g1 3 rfl (by kernel_rfl) (lo aggInt ((hb4.ext (e8.trans e14)).updN u21 (by omega)) [.bool sb,.slice Ab nb cb] rfl rfl rfl ?_)))))))))
          have L154:ln (x-y)≤1048577:=Nat.le_trans (ln_sub Lx Ly) (by decide)
          refine cl (vs:= [.agg #[.bool sa,.slice Aa na ca],.agg #[.bool sb,.slice Ab nb cb]]) hw4 (g_ref5_Sub hw4.size (hx.ext hw4) (lx_ la rfl) (hy.ext hw4) (lx_ lb rfl)) rfl (by kernel_rfl) fun xr157 v155 r157 e156 hw5=>?_
          obtain⟨s158,A158,n158,c158,rfl,z158⟩:=r157
          refine pf g12 0 rfl (by kernel_rfl) ?_
          have hb160:=(hb20.ext e156)
          refine so aggInt hb160 [.bool s158,.slice A158 n158 c158,F0,S0,I0,I0,I0,.string ⟨#[]⟩,I0] hw5 ge16 rfl rfl rfl rfl fun v159 hb161 u162 hw6=>(wl_nil (eo_block_normal (eo_then (cw_seq (sr (pf g1 0 rfl (by kernel_rfl) (wl_load rfl rfl (load_cell (fun _=>by kernel_rfl) ((((hb4.ext (e8.trans e14)).updN u21 (by omega)).ext e156).updN u162 (by omega)) rfl) (by decide) (wl_cmp rfl rfl rfl false (ge_f (by omega)) (by decide) (ne_ (cw_false rfl (cw_skip (eo_then (cw_seq ?_)))))))))))))
          refine cw_region (lo aggAns5 hb161 [.bool s158,.slice A158 n158 c158,F0,S0,I0,I0,I0,.string ⟨#[]⟩,I0] rfl rfl rfl ?_)
          have hb165:=((((hb9.ext e14).updN u21 (by omega)).ext e156).updN u162 (by omega))
          refine so aggAns5 hb165 [.bool s158,.slice A158 n158 c158,F0,S0,I0,I0,I0,.string ⟨#[]⟩,I0] hw6 ge10 rfl rfl rfl rfl fun v164 hb166 u167 hw7=>(ne_ (cw_ret (eo_ret [.agg #[.bool s158,.slice A158 n158 c158,F0,S0,I0,I0,I0,.string ⟨#[]⟩,I0]] rfl ⟨⟨_,rfl,load_agg aggAns5 hb166 [.bool s158,.slice A158 n158 c158,F0,S0,I0,I0,I0,.string ⟨#[]⟩,I0] rfl (bq rfl) rfl⟩,trivial⟩ ?_)))
          have hs:spec5 k x y z nn mm bs zs ys n1 n2=⟨x-y,0,0,0,0,[],0⟩:=by unfold spec5;rw [if_neg hbig,if_neg hk1,if_neg hk2,if_neg hk3,if_neg hk4,if_neg hk5,if_neg hk6,if_neg hk7,if_pos hk8]
          exact⟨_,rfl,AnsR.of hs ⟨_,_,_,_,_,_,_,_,rfl,((z158.updT hb160 u162).updT hb165 u167),((((((Zr.zero (w:=v7) (base:=w.heap.size)).ext e14).updT hb15 u21).ext e156).updT hb160 u162).updT hb165 u167),(lx_ L154 rfl),(Nat.le_trans (by decide:ln 0≤0) (by decide)),(fun c hc=>absurd hc (by simp))⟩,hw7⟩
         · 
          refine cw_region (wl_cmp rfl rfl rfl false (eq_f hk8) (by decide) (mv 1 rfl (ne_ (cw_false rfl (cw_seq ?_)))))
          by_cases hk9:k=9
          · 
           refine cw_region (wl_cmp rfl rfl rfl true (eq_t hk9) (by decide) (mv 1 rfl (ne_ (cw_true rfl (cw_region (pf g1 1 rfl (by kernel_rfl) (lo aggInt ((hb4.ext (e8.trans e14)).updN u21 (by omega)) [.bool sa,.slice Aa na ca] rfl rfl rfl (pf g1 3 rfl (by kernel_rfl) (lo aggInt ((hb4.ext (e8.trans e14)).updN u21 (by omega)) [.bool sb,.slice Ab nb cb] rfl rfl rfl ?_)))))))))
           have L169:ln (x*y)≤2097152:=Nat.le_trans (ln_mul Lx Ly) (by decide)
           refine cl (vs:= [.agg #[.bool sa,.slice Aa na ca],.agg #[.bool sb,.slice Ab nb cb]]) hw4 (g_ref5_Mul hw4.size (hx.ext hw4) (lx_ la rfl) (hy.ext hw4) (lx_ lb rfl)) rfl (by kernel_rfl) fun xr172 v170 r172 e171 hw5=>?_
           obtain⟨s173,A173,n173,c173,rfl,z173⟩:=r172
           refine pf g12 0 rfl (by kernel_rfl) ?_
           have hb175:=(hb20.ext e171)
           refine so aggInt hb175 [.bool s173,.slice A173 n173 c173,F0,S0,I0,I0,I0,.string ⟨#[]⟩,I0] hw5 ge16 rfl rfl rfl rfl fun v174 hb176 u177 hw6=>(wl_nil (eo_block_normal (eo_then (cw_seq (sr (pf g1 0 rfl (by kernel_rfl) (wl_load rfl rfl (load_cell (fun _=>by kernel_rfl) ((((hb4.ext (e8.trans e14)).updN u21 (by omega)).ext e171).updN u177 (by omega)) rfl) (by decide) (wl_cmp rfl rfl rfl false (ge_f (by omega)) (by decide) (ne_ (cw_false rfl (cw_skip (eo_then (cw_seq ?_)))))))))))))
           refine cw_region (lo aggAns5 hb176 [.bool s173,.slice A173 n173 c173,F0,S0,I0,I0,I0,.string ⟨#[]⟩,I0] rfl rfl rfl ?_)
           have hb180:=((((hb9.ext e14).updN u21 (by omega)).ext e171).updN u177 (by omega))
           refine so aggAns5 hb180 [.bool s173,.slice A173 n173 c173,F0,S0,I0,I0,I0,.string ⟨#[]⟩,I0] hw6 ge10 rfl rfl rfl rfl fun v179 hb181 u182 hw7=>(ne_ (cw_ret (eo_ret [.agg #[.bool s173,.slice A173 n173 c173,F0,S0,I0,I0,I0,.string ⟨#[]⟩,I0]] rfl ⟨⟨_,rfl,load_agg aggAns5 hb181 [.bool s173,.slice A173 n173 c173,F0,S0,I0,I0,I0,.string ⟨#[]⟩,I0] rfl (bq rfl) rfl⟩,trivial⟩ ?_)))
           have hs:spec5 k x y z nn mm bs zs ys n1 n2=⟨x*y,0,0,0,0,[],0⟩:=by unfold spec5;rw [if_neg hbig,if_neg hk1,if_neg hk2,if_neg hk3,if_neg hk4,if_neg hk5,if_neg hk6,if_neg hk7,if_neg hk8,if_pos hk9]
           exact⟨_,rfl,AnsR.of hs ⟨_,_,_,_,_,_,_,_,rfl,((z173.updT hb175 u177).updT hb180 u182),((((((Zr.zero (w:=v7) (base:=w.heap.size)).ext e14).updT hb15 u21).ext e171).updT hb175 u177).updT hb180 u182),(lx_ L169 rfl),(Nat.le_trans (by decide:ln 0≤0) (by decide)),(fun c hc=>absurd hc (by simp))⟩,hw7⟩
          · 
           refine cw_region (wl_cmp rfl rfl rfl false (eq_f hk9) (by decide) (mv 1 rfl (ne_ (cw_false rfl (cw_seq ?_)))))
           by_cases hk10:k=10
           · 
            refine cw_region (wl_cmp rfl rfl rfl true (eq_t hk10) (by decide) (mv 1 rfl (ne_ (cw_true rfl (cw_region (pf g1 1 rfl (by kernel_rfl) (lo aggInt ((hb4.ext (e8.trans e14)).updN u21 (by omega)) [.bool sa,.slice Aa na ca] rfl rfl rfl (pf g1 3 rfl (by kernel_rfl) (lo aggInt ((hb4.ext (e8.trans e14)).updN u21 (by omega)) [.bool sb,.slice Ab nb cb] rfl rfl rfl (pf g1 5 rfl (by kernel_rfl) (lo aggInt ((hb4.ext (e8.trans e14)).updN u21 (by omega)) [.bool sd,.slice Ad nd cd] rfl rfl rfl ?_)))))))))))
            have L184:ln (x*y+z)≤2097153:=Nat.le_trans (ln_add (ln_mul Lx Ly) Lz) (by decide)
            refine cl (vs:= [.agg #[.bool sa,.slice Aa na ca],.agg #[.bool sb,.slice Ab nb cb],.agg #[.bool sd,.slice Ad nd cd]]) hw4 (g_ref5_MulAdd hw4.size (hx.ext hw4) (lx_ la rfl) (hy.ext hw4) (lx_ lb rfl) (hz.ext hw4) (lx_ ld rfl)) rfl (by kernel_rfl) fun xr187 v185 r187 e186 hw5=>?_
            obtain⟨s188,A188,n188,c188,rfl,z188⟩:=r187
            refine pf g12 0 rfl (by kernel_rfl) ?_
            have hb190:=(hb20.ext e186)
            refine so aggInt hb190 [.bool s188,.slice A188 n188 c188,F0,S0,I0,I0,I0,.string ⟨#[]⟩,I0] hw5 ge16 rfl rfl rfl rfl fun v189 hb191 u192 hw6=>(wl_nil (eo_block_normal (eo_then (cw_seq (sr (pf g1 0 rfl (by kernel_rfl) (wl_load rfl rfl (load_cell (fun _=>by kernel_rfl) ((((hb4.ext (e8.trans e14)).updN u21 (by omega)).ext e186).updN u192 (by omega)) rfl) (by decide) (wl_cmp rfl rfl rfl false (ge_f (by omega)) (by decide) (ne_ (cw_false rfl (cw_skip (eo_then (cw_seq ?_)))))))))))))
            refine cw_region (lo aggAns5 hb191 [.bool s188,.slice A188 n188 c188,F0,S0,I0,I0,I0,.string ⟨#[]⟩,I0] rfl rfl rfl ?_)
            have hb195:=((((hb9.ext e14).updN u21 (by omega)).ext e186).updN u192 (by omega))
            refine so aggAns5 hb195 [.bool s188,.slice A188 n188 c188,F0,S0,I0,I0,I0,.string ⟨#[]⟩,I0] hw6 ge10 rfl rfl rfl rfl fun v194 hb196 u197 hw7=>(ne_ (cw_ret (eo_ret [.agg #[.bool s188,.slice A188 n188 c188,F0,S0,I0,I0,I0,.string ⟨#[]⟩,I0]] rfl ⟨⟨_,rfl,load_agg aggAns5 hb196 [.bool s188,.slice A188 n188 c188,F0,S0,I0,I0,I0,.string ⟨#[]⟩,I0] rfl (bq rfl) rfl⟩,trivial⟩ ?_)))
            have hs:spec5 k x y z nn mm bs zs ys n1 n2=⟨x*y+z,0,0,0,0,[],0⟩:=by unfold spec5;rw [if_neg hbig,if_neg hk1,if_neg hk2,if_neg hk3,if_neg hk4,if_neg hk5,if_neg hk6,if_neg hk7,if_neg hk8,if_neg hk9,if_pos hk10]
            exact⟨_,rfl,AnsR.of hs ⟨_,_,_,_,_,_,_,_,rfl,((z188.updT hb190 u192).updT hb195 u197),((((((Zr.zero (w:=v7) (base:=w.heap.size)).ext e14).updT hb15 u21).ext e186).updT hb190 u192).updT hb195 u197),(lx_ L184 rfl),(Nat.le_trans (by decide:ln 0≤0) (by decide)),(fun c hc=>absurd hc (by simp))⟩,hw7⟩
           · 
            refine cw_region (wl_cmp rfl rfl rfl false (eq_f hk10) (by decide) (mv 1 rfl (ne_ (cw_false rfl (cw_seq ?_)))))
            by_cases hk11:k=11
            · 
             refine cw_region (wl_cmp rfl rfl rfl true (eq_t hk11) (by decide) (mv 1 rfl (ne_ (cw_true rfl (cw_region (pf g1 11 rfl (by kernel_rfl) (wl_load rfl rfl (load_cell (fun _=>by kernel_rfl) ((hb4.ext (e8.trans e14)).updN u21 (by omega)) rfl) (by decide) ?_)))))))
             have L199:ln (sumL ys)≤2097152:=(by have h:=ln_sumL hln2 n2;rw [List.take_of_length_le (by rw [hl2.len];exact Nat.le_refl _)] at h;omega)
             refine cl (vs:= [.slice C n2 c2]) hw4 (g_ref5_Sum hw4.size (hl2.ext hw4) hn2 (fun i=>Nat.le_trans (hmb2 i) (by decide))) rfl (by kernel_rfl) fun xr202 v200 r202 e201 hw5=>?_
             obtain⟨s203,A203,n203,c203,rfl,z203⟩:=r202
             refine pf g12 0 rfl (by kernel_rfl) ?_
             have hb205:=(hb20.ext e201)
             refine so aggInt hb205 [.bool s203,.slice A203 n203 c203,F0,S0,I0,I0,I0,.string ⟨#[]⟩,I0] hw5 ge16 rfl rfl rfl rfl fun v204 hb206 u207 hw6=>(wl_nil (eo_block_normal (eo_then (cw_seq (sr (pf g1 0 rfl (by kernel_rfl) (wl_load rfl rfl (load_cell (fun _=>by kernel_rfl) ((((hb4.ext (e8.trans e14)).updN u21 (by omega)).ext e201).updN u207 (by omega)) rfl) (by decide) (wl_cmp rfl rfl rfl false (ge_f (by omega)) (by decide) (ne_ (cw_false rfl (cw_skip (eo_then (cw_seq ?_)))))))))))))
             refine cw_region (lo aggAns5 hb206 [.bool s203,.slice A203 n203 c203,F0,S0,I0,I0,I0,.string ⟨#[]⟩,I0] rfl rfl rfl ?_)
             have hb210:=((((hb9.ext e14).updN u21 (by omega)).ext e201).updN u207 (by omega))
             refine so aggAns5 hb210 [.bool s203,.slice A203 n203 c203,F0,S0,I0,I0,I0,.string ⟨#[]⟩,I0] hw6 ge10 rfl rfl rfl rfl fun v209 hb211 u212 hw7=>(ne_ (cw_ret (eo_ret [.agg #[.bool s203,.slice A203 n203 c203,F0,S0,I0,I0,I0,.string ⟨#[]⟩,I0]] rfl ⟨⟨_,rfl,load_agg aggAns5 hb211 [.bool s203,.slice A203 n203 c203,F0,S0,I0,I0,I0,.string ⟨#[]⟩,I0] rfl (bq rfl) rfl⟩,trivial⟩ ?_)))
             have hs:spec5 k x y z nn mm bs zs ys n1 n2=⟨sumL ys,0,0,0,0,[],0⟩:=by unfold spec5;rw [if_neg hbig,if_neg hk1,if_neg hk2,if_neg hk3,if_neg hk4,if_neg hk5,if_neg hk6,if_neg hk7,if_neg hk8,if_neg hk9,if_neg hk10,if_pos hk11]
             exact⟨_,rfl,AnsR.of hs ⟨_,_,_,_,_,_,_,_,rfl,((z203.updT hb205 u207).updT hb210 u212),((((((Zr.zero (w:=v7) (base:=w.heap.size)).ext e14).updT hb15 u21).ext e201).updT hb205 u207).updT hb210 u212),(lx_ L199 rfl),(Nat.le_trans (by decide:ln 0≤0) (by decide)),(fun c hc=>absurd hc (by simp))⟩,hw7⟩
            · 
             refine cw_region (wl_cmp rfl rfl rfl false (eq_f hk11) (by decide) (mv 1 rfl (ne_ (cw_false rfl (cw_seq ?_)))))
             by_cases hk12:k=12
             · 
              refine cw_region (wl_cmp rfl rfl rfl true (eq_t hk12) (by decide) (mv 1 rfl (ne_ (cw_true rfl (cw_region (pf g1 10 rfl (by kernel_rfl) (wl_load rfl rfl (load_cell (fun _=>by kernel_rfl) ((hb4.ext (e8.trans e14)).updN u21 (by omega)) rfl) (by decide) (pf g1 11 rfl (by kernel_rfl) (wl_load rfl rfl (load_cell (fun _=>by kernel_rfl) ((hb4.ext (e8.trans e14)).updN u21 (by omega)) rfl) (by decide) ?_)))))))))
              have L214:ln (vD zs ys n1 n2)≤3145728:=(by have h:=ln_vD (n:=n1) (m:=n2) hln1 hln2;omega)
              refine cl (vs:= [.slice A n1 c1,.slice C n2 c2]) hw4 (j_ref5_Dot hw4.size (hl.ext hw4) hn1 hmb (hl2.ext hw4) hmb2) rfl (by kernel_rfl) fun xr217 v215 r217 e216 hw5=>?_
              obtain⟨_,_,rfl,⟨s219,A219,n219,c219,rfl,z219⟩,rfl⟩:=r217
              refine mv 1 rfl (pu (v:= .agg #[.bool s219,.slice A219 n219 c219]) rfl (by kernel_rfl) (pu (v:= .int .i64 (eD n1 n2)) rfl (by kernel_rfl) (pf g12 0 rfl (by kernel_rfl) ?_)))
              have hb221:=(hb20.ext e216)
              refine so aggInt hb221 [.bool s219,.slice A219 n219 c219,F0,S0,I0,I0,I0,.string ⟨#[]⟩,I0] hw5 ge16 rfl rfl rfl rfl fun v220 hb222 u223 hw6=>(pf g12 8 rfl (by kernel_rfl) (wl_stored1 rfl rfl rfl (fun _=>by kernel_rfl) rfl hb222 (bq rfl) rfl [.bool s219,.slice A219 n219 c219,F0,S0,I0,I0,I0,.string ⟨#[]⟩,.int .i64 (eD n1 n2)] rfl fun v225 hb227 u228 hs229=>?_))
              have hw7:=u228.ext hw6 ge16
              refine wl_nil (eo_block_normal (eo_then (cw_seq (sr (pf g1 0 rfl (by kernel_rfl) (wl_load rfl rfl (load_cell (fun _=>by kernel_rfl) (((((hb4.ext (e8.trans e14)).updN u21 (by omega)).ext e216).updN u223 (by omega)).updN u228 (by omega)) rfl) (by decide) (wl_cmp rfl rfl rfl false (ge_f (by omega)) (by decide) (ne_ (cw_false rfl (cw_skip (eo_then (sr (lo aggAns5 hb227 [.bool s219,.slice A219 n219 c219,F0,S0,I0,I0,I0,.string ⟨#[]⟩,.int .i64 (eD n1 n2)] rfl rfl rfl ?_)))))))))))))
              have hb231:=(((((hb9.ext e14).updN u21 (by omega)).ext e216).updN u223 (by omega)).updN u228 (by omega))
              refine so aggAns5 hb231 [.bool s219,.slice A219 n219 c219,F0,S0,I0,I0,I0,.string ⟨#[]⟩,.int .i64 (eD n1 n2)] hw7 ge10 rfl rfl rfl rfl fun v230 hb232 u233 hw8=>(ne_ (cw_ret (eo_ret [.agg #[.bool s219,.slice A219 n219 c219,F0,S0,I0,I0,I0,.string ⟨#[]⟩,.int .i64 (eD n1 n2)]] rfl ⟨⟨_,rfl,load_agg aggAns5 hb232 [.bool s219,.slice A219 n219 c219,F0,S0,I0,I0,I0,.string ⟨#[]⟩,.int .i64 (eD n1 n2)] rfl (bq rfl) rfl⟩,trivial⟩ ?_)))
              have hs:spec5 k x y z nn mm bs zs ys n1 n2=⟨vD zs ys n1 n2,0,0,0,0,[],eD n1 n2⟩:=by unfold spec5;rw [if_neg hbig,if_neg hk1,if_neg hk2,if_neg hk3,if_neg hk4,if_neg hk5,if_neg hk6,if_neg hk7,if_neg hk8,if_neg hk9,if_neg hk10,if_neg hk11,if_pos hk12]
              exact⟨_,rfl,AnsR.of hs ⟨_,_,_,_,_,_,_,_,rfl,(((z219.updT hb221 u223).updT hb222 u228).updT hb231 u233),(((((((Zr.zero (w:=v7) (base:=w.heap.size)).ext e14).updT hb15 u21).ext e216).updT hb221 u223).updT hb222 u228).updT hb231 u233),(lx_ L214 rfl),(Nat.le_trans (by decide:ln 0≤0) (by decide)),(fun c hc=>absurd hc (by simp))⟩,hw8⟩
             · 
              refine cw_region (wl_cmp rfl rfl rfl false (eq_f hk12) (by decide) (mv 1 rfl (ne_ (cw_false rfl (cw_seq ?_)))))
              by_cases hk13:k=13
              · 
               refine cw_region (wl_cmp rfl rfl rfl true (eq_t hk13) (by decide) (mv 1 rfl (ne_ (cw_true rfl (cw_region (pf g1 1 rfl (by kernel_rfl) (lo aggInt ((hb4.ext (e8.trans e14)).updN u21 (by omega)) [.bool sa,.slice Aa na ca] rfl rfl rfl (pf g1 7 rfl (by kernel_rfl) (wl_load rfl rfl (load_cell (fun _=>by kernel_rfl) ((hb4.ext (e8.trans e14)).updN u21 (by omega)) rfl) (by decide) ?_)))))))))
               have L235:ln (vP x nn)≤268435457:=ln_vP Lx
               refine cl (vs:= [.agg #[.bool sa,.slice Aa na ca],.int .i64 nn]) hw4 (j_ref5_Pow hw4.size (hx.ext hw4) (lx_ la rfl)) rfl (by kernel_rfl) fun xr238 v236 r238 e237 hw5=>?_
               obtain⟨_,_,rfl,⟨s240,A240,n240,c240,rfl,z240⟩,rfl⟩:=r238
               refine mv 1 rfl (pu (v:= .agg #[.bool s240,.slice A240 n240 c240]) rfl (by kernel_rfl) (pu (v:= .int .i64 (eP nn)) rfl (by kernel_rfl) (pf g12 0 rfl (by kernel_rfl) ?_)))
               have hb242:=(hb20.ext e237)
               refine so aggInt hb242 [.bool s240,.slice A240 n240 c240,F0,S0,I0,I0,I0,.string ⟨#[]⟩,I0] hw5 ge16 rfl rfl rfl rfl fun v241 hb243 u244 hw6=>(pf g12 8 rfl (by kernel_rfl) (wl_stored1 rfl rfl rfl (fun _=>by kernel_rfl) rfl hb243 (bq rfl) rfl [.bool s240,.slice A240 n240 c240,F0,S0,I0,I0,I0,.string ⟨#[]⟩,.int .i64 (eP nn)] rfl fun v246 hb248 u249 hs250=>?_))
               have hw7:=u249.ext hw6 ge16
               refine wl_nil (eo_block_normal (eo_then (cw_seq (sr (pf g1 0 rfl (by kernel_rfl) (wl_load rfl rfl (load_cell (fun _=>by kernel_rfl) (((((hb4.ext (e8.trans e14)).updN u21 (by omega)).ext e237).updN u244 (by omega)).updN u249 (by omega)) rfl) (by decide) (wl_cmp rfl rfl rfl false (ge_f (by omega)) (by decide) (ne_ (cw_false rfl (cw_skip (eo_then (sr (lo aggAns5 hb248 [.bool s240,.slice A240 n240 c240,F0,S0,I0,I0,I0,.string ⟨#[]⟩,.int .i64 (eP nn)] rfl rfl rfl ?_)))))))))))))
               have hb252:=(((((hb9.ext e14).updN u21 (by omega)).ext e237).updN u244 (by omega)).updN u249 (by omega))
               refine so aggAns5 hb252 [.bool s240,.slice A240 n240 c240,F0,S0,I0,I0,I0,.string ⟨#[]⟩,.int .i64 (eP nn)] hw7 ge10 rfl rfl rfl rfl fun v251 hb253 u254 hw8=>(ne_ (cw_ret (eo_ret [.agg #[.bool s240,.slice A240 n240 c240,F0,S0,I0,I0,I0,.string ⟨#[]⟩,.int .i64 (eP nn)]] rfl ⟨⟨_,rfl,load_agg aggAns5 hb253 [.bool s240,.slice A240 n240 c240,F0,S0,I0,I0,I0,.string ⟨#[]⟩,.int .i64 (eP nn)] rfl (bq rfl) rfl⟩,trivial⟩ ?_)))
               have hs:spec5 k x y z nn mm bs zs ys n1 n2=⟨vP x nn,0,0,0,0,[],eP nn⟩:=by unfold spec5;rw [if_neg hbig,if_neg hk1,if_neg hk2,if_neg hk3,if_neg hk4,if_neg hk5,if_neg hk6,if_neg hk7,if_neg hk8,if_neg hk9,if_neg hk10,if_neg hk11,if_neg hk12,if_pos hk13]
               exact⟨_,rfl,AnsR.of hs ⟨_,_,_,_,_,_,_,_,rfl,(((z240.updT hb242 u244).updT hb243 u249).updT hb252 u254),(((((((Zr.zero (w:=v7) (base:=w.heap.size)).ext e14).updT hb15 u21).ext e237).updT hb242 u244).updT hb243 u249).updT hb252 u254),(lx_ L235 rfl),(Nat.le_trans (by decide:ln 0≤0) (by decide)),(fun c hc=>absurd hc (by simp))⟩,hw8⟩
              · 
               refine cw_region (wl_cmp rfl rfl rfl false (eq_f hk13) (by decide) (mv 1 rfl (ne_ (cw_false rfl (cw_skip (eo_block_normal (eo_then (cw_seq (sr (pf g1 0 rfl (by kernel_rfl) (wl_load rfl rfl (load_cell (fun _=>by kernel_rfl) ((hb4.ext (e8.trans e14)).updN u21 (by omega)) rfl) (by decide) (wl_cmp rfl rfl rfl false (ge_f (by omega)) (by decide) (wl_nil ?_)))))))))))))
               refine eo_then (cw_false rfl (cw_skip (eo_then (sr (lo aggAns5 hb20 [F0,S0,F0,S0,I0,I0,I0,.string ⟨#[]⟩,I0] rfl rfl rfl ?_)))))
               have hb257:=((hb9.ext e14).updN u21 (by omega))
               refine so aggAns5 hb257 [F0,S0,F0,S0,I0,I0,I0,.string ⟨#[]⟩,I0] hw4 ge10 rfl rfl rfl rfl fun v256 hb258 u259 hw5=>(ne_ (cw_ret (eo_ret [.agg #[F0,S0,F0,S0,I0,I0,I0,.string ⟨#[]⟩,I0]] rfl ⟨⟨_,rfl,load_agg aggAns5 hb258 [F0,S0,F0,S0,I0,I0,I0,.string ⟨#[]⟩,I0] rfl (bq rfl) rfl⟩,trivial⟩ ?_)))
               have hs:spec5 k x y z nn mm bs zs ys n1 n2=⟨0,0,0,0,0,[],0⟩:=by unfold spec5;rw [if_neg hbig,if_neg hk1,if_neg hk2,if_neg hk3,if_neg hk4,if_neg hk5,if_neg hk6,if_neg hk7,if_neg hk8,if_neg hk9,if_neg hk10,if_neg hk11,if_neg hk12,if_neg hk13]
               exact⟨_,rfl,AnsR.of hs ⟨_,_,_,_,_,_,_,_,rfl,((((Zr.zero (w:=v7) (base:=w.heap.size)).ext e14).updT hb15 u21).updT hb257 u259),((((Zr.zero (w:=v7) (base:=w.heap.size)).ext e14).updT hb15 u21).updT hb257 u259),(Nat.le_trans (by decide:ln 0≤0) (by decide)),(Nat.le_trans (by decide:ln 0≤0) (by decide)),(fun c hc=>absurd hc (by simp))⟩,hw5⟩
theorem g_told {w:World}{b:Nat}(hb:b≤w.heap.size){k x y z nn mm:Int}{bs:List Nat}{zs ys:List Int}{n1 n2:Nat}{v:Value}(h:Op5 w k x y z nn mm bs zs ys n1 n2 v) (hn1:n1≤1048576) (hn2:n2≤1048576) (hbs:∀b,b∈bs→b<256) (hlen:bs.length≤1048576) (hm1: -9223372036854775808≤mm) (hm2:mm≤9223372036854775807):
  Calls Tryz.prog 9 #[v] w (Gv w (AnsR b (spec5 k x y z nn mm bs zs ys n1 n2))):=by
 obtain⟨sa,Aa,na,ca,sb,Ab,nb,cb,sd,Ad,nd,cd,A,c1,ms,C,c2,ms2,rfl,h1,h2,h3,h4,h5,h6,h7,h8,h9,h10⟩:=h
 exact (g_toldI h1 h2 h3 h4 h5 h6 h7 h8 h9 h10 hn1 hn2 hbs hlen hm1 hm2).mono (Gv.imp (AnsR.imp hb))
set_option maxHeartbeats 8000000 in
set_option maxRecDepth 20000 in
theorem law_ZintPlaysP {w:World}{A:Option Addr}{n cap:Nat}(ho:Al 12 Op5c w A n) (hn:n≤1048576) (hS:Signs w):
    Calls Tryz.prog 3 #[.slice A n cap] w (Gv w (Is (.bool true))):=by
 refine sx_enter Tryz.func3 rfl (n:=29) rfl (bq rfl) (args:= [.slice A n cap]) (cw_keep [(0,.slice A n cap)] ⟨rfl,trivial⟩ (sr (mv 1 rfl (ne_ (cw_seq (sr (cl (vs:= []) (Ext.refl w) (g_law5_awake (hS.ext (Ext.refl w))) rfl (by kernel_rfl) fun xr3 v1 r3 e2 hw1=>?_)))))))
 obtain rfl:=r3
 refine pu (v:= .bool false) rfl (by kernel_rfl) (ne_ (cw_false rfl (cw_skip (eo_then (cw_seq (sr (mv 1 rfl (ne_ (cw_block ?_)))))))))
 refine cw_loop (T:=World×Nat)
  (fun⟨wr,i⟩=> [(0,.slice A n cap),(3,.int .i64 ((i:Nat):Int))])
  (fun⟨wr,i⟩=>wr)
  (fun⟨wr,i⟩=>(Ext w wr)∧(i≤n))
  (fun⟨wr,i⟩=>n-i)
  (⟨v1,0⟩:World×Nat) ⟨hw1,(Nat.zero_le _)⟩ rfl ⟨rfl,rfl,trivial⟩ ?_
 rintro⟨wr,i⟩ ⟨hw1,hile⟩
 refine cw_re [(0,.slice A n cap),(3,.int .i64 ((i:Nat):Int))] wr rfl ⟨rfl,rfl,trivial⟩ (cw_seq (cw_seq ?_))
 by_cases hin:i<n
 · 
  refine cw_region (mv 2 rfl (pu (v:= .int .i64 ((n:Nat):Int)) rfl (by kernel_rfl) (wl_cmp rfl rfl rfl true (cb_lt_t (a:=i) (b:=n) rfl rfl (by omega)) (by decide) (ne_ (cw_true rfl (cw_skip (eo_then (cw_seq (cw_block (sr (mv 2 rfl ?_)))))))))))
  obtain⟨p4,v4,k4,x4,y4,z4,nn4,mm4,bs4,zs4,ys4,n14,n24,hp4,ld4,hop4,hn14,hn24,hbs4,hlen4,hm14,hm24⟩:=ho.at12 (i:=i) (by omega)
  refine wl_idx rfl rfl rfl Tryz.underlying22 aggOp5.size i rfl (by omega) p4 hp4 (by decide) (wl_load rfl rfl (ld4 _ hw1) (by decide) (cl (vs:= [v4]) hw1 (g_law5_copied (hop4.ext hw1) hn14 hn24) rfl (by kernel_rfl) fun xr7 v5 r7 e6 hw2=>?_))
  have hop8:=r7
  obtain⟨sa8,Aa8,na8,ca8,sb8,Ab8,nb8,cb8,sd8,Ad8,nd8,cd8,B18,c18,m18,B28,c28,m28,rfl,_⟩:=r7
  refine wl_alloc rfl (z:= .agg #[I0,F0,S0,F0,S0,F0,S0,I0,I0,.string ⟨#[]⟩,S0,S0]) (vs:= [I0,F0,S0,F0,S0,F0,S0,I0,I0,.string ⟨#[]⟩,S0,S0]) (fun _=>by kernel_rfl) rfl (by decide) fun g9 v10 nb=>?_
  have gw_g9:v5.heap.size≤g9:=by rw [←nb.at_];exact Nat.le_refl _
  have hb12:=nb.bk
  have ge13:w.heap.size≤g9:=by rw [←nb.at_];exact hw2.size
  have e11:=nb.ext
  clear nb
  have hw3:=hw2.trans e11
  refine so aggOp5 hb12 [.int .i64 k4,.bool sa8,.slice Aa8 na8 ca8,.bool sb8,.slice Ab8 nb8 cb8,.bool sd8,.slice Ad8 nd8 cd8,.int .i64 nn4,.int .i64 mm4,.string (strB bs4),.slice B18 n14 c18,.slice B28 n24 c28] hw3 ge13 rfl rfl rfl rfl fun v14 hb16 u17 hw4=>(ne_ (sr (lo aggOp5 hb16 [.int .i64 k4,.bool sa8,.slice Aa8 na8 ca8,.bool sb8,.slice Ab8 nb8 cb8,.bool sd8,.slice Ad8 nd8 cd8,.int .i64 nn4,.int .i64 mm4,.string (strB bs4),.slice B18 n14 c18,.slice B28 n24 c28] rfl rfl rfl (cl (vs:= [.agg #[.int .i64 k4,.bool sa8,.slice Aa8 na8 ca8,.bool sb8,.slice Ab8 nb8 cb8,.bool sd8,.slice Ad8 nd8 cd8,.int .i64 nn4,.int .i64 mm4,.string (strB bs4),.slice B18 n14 c18,.slice B28 n24 c28]]) hw4 (g_law5_copied (hop8.ext (u17.ext e11 (Nat.le_trans (Ext.refl _).size gw_g9))) hn14 hn24) rfl (by kernel_rfl) fun xr21 v19 r21 e20 hw5=>?_))))
  have hop22:=r21
  obtain⟨sa22,Aa22,na22,ca22,sb22,Ab22,nb22,cb22,sd22,Ad22,nd22,cd22,B122,c122,m122,B222,c222,m222,rfl,_⟩:=r21
  refine cl (vs:= [.agg #[.int .i64 k4,.bool sa22,.slice Aa22 na22 ca22,.bool sb22,.slice Ab22 nb22 cb22,.bool sd22,.slice Ad22 nd22 cd22,.int .i64 nn4,.int .i64 mm4,.string (strB bs4),.slice B122 n14 c122,.slice B222 n24 c222]]) hw5 (g_told hw5.size (hop22.ext (Ext.refl _)) hn14 hn24 hbs4 hlen4 hm14 hm24) rfl (by kernel_rfl) fun xr25 v23 r25 e24 hw6=>?_
  obtain⟨s26,A26,n26,c26,t26,B26,m26,d26,rfl,zx26,zy26,lx26,ly26,lt26⟩:=r25
  refine wl_alloc rfl (z:= .agg #[F0,S0,F0,S0,I0,I0,I0,.string ⟨#[]⟩,I0]) (vs:= [F0,S0,F0,S0,I0,I0,I0,.string ⟨#[]⟩,I0]) (fun _=>by kernel_rfl) rfl (by decide) fun g27 v28 nb=>?_
  have gw_g27:v23.heap.size≤g27:=by rw [←nb.at_];exact Nat.le_refl _
  have hb30:=nb.bk
  have ge31:w.heap.size≤g27:=by rw [←nb.at_];exact hw6.size
  have q32:g9<g27:=by rw [←nb.at_];exact (hb16.ext (e20.trans e24)).lt
  have e29:=nb.ext
  clear nb
  have hw7:=hw6.trans e29
  refine so aggAns5 hb30 [.bool s26,.slice A26 n26 c26,.bool t26,.slice B26 m26 d26,.int .i64 ((spec5 k4 x4 y4 z4 nn4 mm4 bs4 zs4 ys4 n14 n24).V),.int .i64 ((spec5 k4 x4 y4 z4 nn4 mm4 bs4 zs4 ys4 n14 n24).P),.int .i64 ((spec5 k4 x4 y4 z4 nn4 mm4 bs4 zs4 ys4 n14 n24).Q),.string (strB (spec5 k4 x4 y4 z4 nn4 mm4 bs4 zs4 ys4 n14 n24).S),.int .i64 ((spec5 k4 x4 y4 z4 nn4 mm4 bs4 zs4 ys4 n14 n24).E)] hw7 ge31 rfl rfl rfl rfl fun v33 hb35 u36 hw8=>(ne_ (sr (lo aggOp5 ((hb16.ext (e20.trans (e24.trans e29))).updN u36 (by omega)) [.int .i64 k4,.bool sa8,.slice Aa8 na8 ca8,.bool sb8,.slice Ab8 nb8 cb8,.bool sd8,.slice Ad8 nd8 cd8,.int .i64 nn4,.int .i64 mm4,.string (strB bs4),.slice B18 n14 c18,.slice B28 n24 c28] rfl rfl rfl (cl (vs:= [.agg #[.int .i64 k4,.bool sa8,.slice Aa8 na8 ca8,.bool sb8,.slice Ab8 nb8 cb8,.bool sd8,.slice Ad8 nd8 cd8,.int .i64 nn4,.int .i64 mm4,.string (strB bs4),.slice B18 n14 c18,.slice B28 n24 c28]]) hw8 (g_asked hw8.size (hop8.ext (u36.ext ((((u17.ext e11 (Nat.le_trans (Ext.refl _).size gw_g9)).trans e20).trans e24).trans e29) (Nat.le_trans (((u17.ext e11 (Nat.le_trans (Ext.refl _).size gw_g9)).trans e20).trans e24).size gw_g27))) (hS.ext hw8) hn14 hn24 hbs4 hlen4 hm14 hm24) rfl (by kernel_rfl) fun xr40 v38 r40 e39 hw9=>?_))))
  obtain⟨s41,A41,n41,c41,t41,B41,m41,d41,rfl,zx41,zy41,lx41,ly41,lt41⟩:=r40
  refine wl_alloc rfl (z:= .agg #[F0,S0,F0,S0,I0,I0,I0,.string ⟨#[]⟩,I0]) (vs:= [F0,S0,F0,S0,I0,I0,I0,.string ⟨#[]⟩,I0]) (fun _=>by kernel_rfl) rfl (by decide) fun g42 v43 nb=>?_
  have gw_g42:v38.heap.size≤g42:=by rw [←nb.at_];exact Nat.le_refl _
  have hb45:=nb.bk
  have ge46:w.heap.size≤g42:=by rw [←nb.at_];exact hw9.size
  have q47:g27<g42:=by rw [←nb.at_];exact (hb35.ext e39).lt
  have e44:=nb.ext
  clear nb
  have hw10:=hw9.trans e44
  refine so aggAns5 hb45 [.bool s41,.slice A41 n41 c41,.bool t41,.slice B41 m41 d41,.int .i64 ((spec5 k4 x4 y4 z4 nn4 mm4 bs4 zs4 ys4 n14 n24).V),.int .i64 ((spec5 k4 x4 y4 z4 nn4 mm4 bs4 zs4 ys4 n14 n24).P),.int .i64 ((spec5 k4 x4 y4 z4 nn4 mm4 bs4 zs4 ys4 n14 n24).Q),.string (strB (spec5 k4 x4 y4 z4 nn4 mm4 bs4 zs4 ys4 n14 n24).S),.int .i64 ((spec5 k4 x4 y4 z4 nn4 mm4 bs4 zs4 ys4 n14 n24).E)] hw10 ge46 rfl rfl rfl rfl fun v48 hb50 u51 hw11=>(ne_ (sr (lo aggAns5 hb50 [.bool s41,.slice A41 n41 c41,.bool t41,.slice B41 m41 d41,.int .i64 ((spec5 k4 x4 y4 z4 nn4 mm4 bs4 zs4 ys4 n14 n24).V),.int .i64 ((spec5 k4 x4 y4 z4 nn4 mm4 bs4 zs4 ys4 n14 n24).P),.int .i64 ((spec5 k4 x4 y4 z4 nn4 mm4 bs4 zs4 ys4 n14 n24).Q),.string (strB (spec5 k4 x4 y4 z4 nn4 mm4 bs4 zs4 ys4 n14 n24).S),.int .i64 ((spec5 k4 x4 y4 z4 nn4 mm4 bs4 zs4 ys4 n14 n24).E)] rfl rfl rfl (lo aggAns5 ((hb35.ext (e39.trans e44)).updN u51 (by omega)) [.bool s26,.slice A26 n26 c26,.bool t26,.slice B26 m26 d26,.int .i64 ((spec5 k4 x4 y4 z4 nn4 mm4 bs4 zs4 ys4 n14 n24).V),.int .i64 ((spec5 k4 x4 y4 z4 nn4 mm4 bs4 zs4 ys4 n14 n24).P),.int .i64 ((spec5 k4 x4 y4 z4 nn4 mm4 bs4 zs4 ys4 n14 n24).Q),.string (strB (spec5 k4 x4 y4 z4 nn4 mm4 bs4 zs4 ys4 n14 n24).S),.int .i64 ((spec5 k4 x4 y4 z4 nn4 mm4 bs4 zs4 ys4 n14 n24).E)] rfl rfl rfl (cl (vs:= [.agg #[.bool s41,.slice A41 n41 c41,.bool t41,.slice B41 m41 d41,.int .i64 ((spec5 k4 x4 y4 z4 nn4 mm4 bs4 zs4 ys4 n14 n24).V),.int .i64 ((spec5 k4 x4 y4 z4 nn4 mm4 bs4 zs4 ys4 n14 n24).P),.int .i64 ((spec5 k4 x4 y4 z4 nn4 mm4 bs4 zs4 ys4 n14 n24).Q),.string (strB (spec5 k4 x4 y4 z4 nn4 mm4 bs4 zs4 ys4 n14 n24).S),.int .i64 ((spec5 k4 x4 y4 z4 nn4 mm4 bs4 zs4 ys4 n14 n24).E)],.agg #[.bool s26,.slice A26 n26 c26,.bool t26,.slice B26 m26 d26,.int .i64 ((spec5 k4 x4 y4 z4 nn4 mm4 bs4 zs4 ys4 n14 n24).V),.int .i64 ((spec5 k4 x4 y4 z4 nn4 mm4 bs4 zs4 ys4 n14 n24).P),.int .i64 ((spec5 k4 x4 y4 z4 nn4 mm4 bs4 zs4 ys4 n14 n24).Q),.string (strB (spec5 k4 x4 y4 z4 nn4 mm4 bs4 zs4 ys4 n14 n24).S),.int .i64 ((spec5 k4 x4 y4 z4 nn4 mm4 bs4 zs4 ys4 n14 n24).E)]]) hw11 (g_law5_matches (show AnsR w.heap.size ((spec5 k4 x4 y4 z4 nn4 mm4 bs4 zs4 ys4 n14 n24)) _ _ from⟨_,_,_,_,_,_,_,_,rfl,((zx41.ext e44).updT hb45 u51),((zy41.ext e44).updT hb45 u51),lx41,ly41,lt41⟩) (show AnsR w.heap.size ((spec5 k4 x4 y4 z4 nn4 mm4 bs4 zs4 ys4 n14 n24)) _ _ from⟨_,_,_,_,_,_,_,_,rfl,((((zx26.ext e29).updT hb30 u36).ext (e39.trans e44)).updT hb45 u51),((((zy26.ext e29).updT hb30 u36).ext (e39.trans e44)).updT hb45 u51),lx26,ly26,lt26⟩)) rfl (by kernel_rfl) fun xr55 v53 r55 e54 hw12=>?_)))))
  obtain rfl:=r55
  refine pu (v:= .bool false) rfl (by kernel_rfl) (ne_ (cw_false rfl (cw_skip (eo_block_normal (eo_then (cw_region (mv 1 rfl (wl_ar rfl rfl rfl ((i+1:Nat):Int) (ai_add (a:=i) (b:=1) rfl rfl (by omega)) (by decide) (mv 1 rfl (wl_nil (eo_round (⟨v53,i+1⟩:World×Nat) ⟨hw12,(by omega)⟩ (show n-(i+1)<n-i by omega) rfl ⟨rfl,rfl,trivial⟩)))))))))))
 · 
  refine cw_region (mv 2 rfl (pu (v:= .int .i64 ((n:Nat):Int)) rfl (by kernel_rfl) (wl_cmp rfl rfl rfl false (cb_lt_f (a:=i) (b:=n) rfl rfl (by omega)) (by decide) (ne_ (cw_false rfl (cw_exit (eo_thenX (eo_loopX (eo_block_here (eo_then (sr (mv 1 rfl (wl_nil ?_)))))))))))))
  refine eo_then (cw_ret (eo_ret [.bool true] rfl ⟨rfl,trivial⟩ ?_))
  exact⟨_,rfl,rfl,hw1⟩
theorem law_ZintPlays {w:World}{A:Option Addr}{n cap:Nat}(ho:Al 12 Op5c w A n) (hn:n≤1048576) (hS:Signs w):Calls Tryz.prog 3 #[.slice A n cap] w (BoolP true w):=(law_ZintPlaysP ho hn hS).mono fun e w' h=>bool_of _ _ h
end Go.Proofs.YthggegdkpalgbaaGreatDoor
