/- Parts Pl6, Ops6, Pl6b, Pl6c, joined. -/
import Derived.Test.YtgilhcdglaneiaaGreatS5
import Derived.Deep.Slices

namespace Go.Proofs.YtgilhcdglaneiaaGreat
open Go.RowKit
theorem aggOp6:AggT Tryz.prog 30 11:=⟨fun _=>by kernel_rfl,fun _=>by kernel_rfl⟩
theorem aggAns6:AggT Tryz.prog 42 8:=⟨fun _=>by kernel_rfl,fun _=>by kernel_rfl⟩
def Op6 (w:World) (k x y z u:Int) (zs ys:List Int) (n1 n2:Nat) (v:Value):Prop:=
 ∃sa Aa na ca sb Ab nb cb sd Ad nd cd se Ae ne ce A c1 ms C c2 ms2,v= .agg #[.int .i64 k,.bool sa,.slice Aa na ca,.bool sb,.slice Ab nb cb,.bool sd,.slice Ad nd cd,.bool se,.slice Ae ne ce,.slice A n1 c1,.slice C n2 c2]∧
  Zi w sa Aa na ca x∧na≤1048576∧Zi w sb Ab nb cb y∧nb≤1048576∧Zi w sd Ad nd cd z∧nd≤1048576∧Zi w se Ae ne ce u∧ne≤1048576∧Zl w A n1 c1 zs ms∧ms.sum≤1048576∧Zl w C n2 c2 ys ms2∧ms2.sum≤1048576∧n1≤1048576∧n2≤1048576
theorem Op6.ext {w w':World}{k x y z u:Int}{zs ys:List Int}{n1 n2:Nat}{v:Value}(h:Op6 w k x y z u zs ys n1 n2 v) (e:Ext w w'):Op6 w' k x y z u zs ys n1 n2 v:=by
 obtain⟨sa,Aa,na,ca,sb,Ab,nb,cb,sd,Ad,nd,cd,se,Ae,ne,ce,A,c1,ms,C,c2,ms2,rfl,h1,h2,h3,h4,h5,h6,h7,h8,h9,h10,h11,h12⟩:=h
 exact⟨_,_,_,_,_,_,_,_,_,_,_,_,_,_,_,_,_,_,_,_,_,_,rfl,h1.ext e,h2,h3.ext e,h4,h5.ext e,h6,h7.ext e,h8,h9.ext e,h10,h11.ext e,h12⟩
structure Ans6 where
 X:Int
 Y:Int
 Z:Int
 n:Nat
 L:List Int
 E:Int
def AnsR6 (b:Nat) (t:Ans6) (v:Value) (w:World):Prop:=
 ∃s A n c s' A' n' c' s2 A2 n2 c2 B d,v= .agg #[.bool s,.slice A n c,.bool s',.slice A' n' c',.bool s2,.slice A2 n2 c2,.slice B t.n d,.int .i64 t.E]∧Zr w b s A n c t.X∧Zr w b s' A' n' c' t.Y∧Zr w b s2 A2 n2 c2 t.Z∧Lz none 8388608 b w b B t.n d t.L∧ln t.X≤1099511627776∧ln t.Y≤1099511627776∧ln t.Z≤1099511627776
theorem AnsR6.of {b:Nat}{t t':Ans6}{v:Value}{w:World}(h:t'=t) (k:AnsR6 b t v w):AnsR6 b t' v w:=h▸k
theorem AnsR6.imp {b b':Nat}{t:Ans6}(h:b'≤b):∀v w,AnsR6 b t v w→AnsR6 b' t v w:=fun _ _ ⟨s,A,n,c,s',A',n',c',s2,A2,n2,c2,B,d,h1,h2,h3,h4,h5,h6⟩=>⟨s,A,n,c,s',A',n',c',s2,A2,n2,c2,B,d,h1,h2.mono h,h3.mono h,h4.mono h,h5.mono (Nat.le_refl _) h h,h6⟩
noncomputable def spec6 (k x y z u:Int) (zs ys:List Int) (n1 n2:Nat):Ans6:=
 if k=1 then ⟨(Int.gcd x y:Int),0,0,0,[],0⟩ else if k=2 then ⟨gcdL zs,0,0,0,[],0⟩ else if k=3 then ⟨(Int.lcm x y:Int),0,0,0,[],0⟩ else if k=4 then ⟨(Int.gcd x y:Int),bzu x y,bzv x y,0,[],0⟩ else
 if k=5 then ⟨gcdL zs,0,0,n1,exRv zs.reverse,0⟩ else if k=6 then ⟨ivV x y,0,0,0,[],ivE x y⟩ else if k=7 then ⟨pmV x y z,0,0,0,[],pmE y z⟩ else if k=8 then ⟨crV x y z u,crM x y z u,0,0,[],crE x y z u⟩ else
 if k=9 then ⟨caV zs ys n1 n2,caM zs ys n1 n2,0,0,[],caE zs ys n1 n2⟩ else ⟨0,0,0,0,[],0⟩
theorem lzNil6 {K b lb:Nat}{w:World}:Lz none K b w lb none 0 0 []:=Lz.nil _ _ _ _ _
theorem ln_gcdA {zs:List Int}(h:(zs.map ln).sum≤1048576):ln (gcdL zs)≤1048576:=by
 have h1:∀i,ln (zs.getD i 0)≤1048576:=fun i=>by
  have e:ln (zs.getD i 0)=(zs.map ln).getD i 0:=by
   simp only [List.getD_eq_getElem?_getD,List.getElem?_map]
   cases zs[i]? <;> simp [ln,wd_zero]
  rw [e];exact Nat.le_trans (getD_le_sum _ _) h
 have:=ln_gcdL h1 zs.length
 rwa [List.take_length] at this
set_option maxHeartbeats 16000000 in
set_option maxRecDepth 20000 in
theorem g_plays6I {w:World}{k:Int}{A C:Option Addr}{n1 c1 n2 c2:Nat}{zs ys:List Int}{ms ms2:List Nat}{sa:Bool}{Aa:Option Addr}{na ca:Nat}{x:Int}{sb:Bool}{Ab:Option Addr}{nb cb:Nat}{y:Int}{sd:Bool}{Ad:Option Addr}{nd cd:Nat}{z:Int}{se:Bool}{Ae:Option Addr}{ne ce:Nat}{u:Int}(hx:Zi w sa Aa na ca x) (la:na≤1048576) (hy:Zi w sb Ab nb cb y) (lb:nb≤1048576) (hz:Zi w sd Ad nd cd z) (ld:nd≤1048576) (hu:Zi w se Ae ne ce u) (le:ne≤1048576) (hl:Zl w A n1 c1 zs ms) (hs:ms.sum≤1048576) (hl2:Zl w C n2 c2 ys ms2) (hs2:ms2.sum≤1048576) (hn1:n1≤1048576) (hn2:n2≤1048576):
    Calls Tryz.prog 13 #[.agg #[.int .i64 k,.bool sa,.slice Aa na ca,.bool sb,.slice Ab nb cb,.bool sd,.slice Ad nd cd,.bool se,.slice Ae ne ce,.slice A n1 c1,.slice C n2 c2]] w (Gv w (AnsR6 w.heap.size (spec6 k x y z u zs ys n1 n2))):=by
 have Lx:ln x≤1048576:=Nat.le_trans hx.ln la
 have Ly:ln y≤1048576:=Nat.le_trans hy.ln lb
 have Lz:ln z≤1048576:=Nat.le_trans hz.ln ld
 have Lu:ln u≤1048576:=Nat.le_trans hu.ln le
 have hsum:=Nat.le_trans (sum_ln_le6 hl) hs
 have hsum2:=Nat.le_trans (sum_ln_le6 hl2) hs2
 refine sx_enter Tryz.func13 rfl (n:=111) rfl (bq rfl) (args:= [.agg #[.int .i64 k,.bool sa,.slice Aa na ca,.bool sb,.slice Ab nb cb,.bool sd,.slice Ad nd cd,.bool se,.slice Ae ne ce,.slice A n1 c1,.slice C n2 c2]]) (cw_keep [(0,.agg #[.int .i64 k,.bool sa,.slice Aa na ca,.bool sb,.slice Ab nb cb,.bool sd,.slice Ad nd cd,.bool se,.slice Ae ne ce,.slice A n1 c1,.slice C n2 c2])] ⟨rfl,trivial⟩ (sr (bx [.int .i64 k,.bool sa,.slice Aa na ca,.bool sb,.slice Ab nb cb,.bool sd,.slice Ad nd cd,.bool se,.slice Ae ne ce,.slice A n1 c1,.slice C n2 c2] (Ext.refl w) rfl rfl rfl fun g1 v2 hb4 ge5 e3 hw1=>(alq [F0,S0,F0,S0,F0,S0,S0,I0] hw1 hb4.lt (fun _=>by kernel_rfl) rfl fun g6 v7 hb9 ge10 q11 e8 hw2=>(ne_ (sr (alq [F0,S0,F0,S0,F0,S0,S0,I0] hw2 hb9.lt (fun _=>by kernel_rfl) rfl fun g12 v13 hb15 ge16 q17 e14 hw3=>(ne_ (cw_seq (sr (pf g1 0 rfl (by kernel_rfl) (wl_load rfl rfl (load_cell (fun _=>by kernel_rfl) (hb4.ext (e8.trans e14)) rfl) (by decide) (wl_nil ?_)))))))))))))
 refine eo_then (cw_block (cw_seq ?_))
 by_cases hk1:k=1
 · 
  refine cw_region (wl_cmp rfl rfl rfl true (eq_t hk1) (by decide) (mv 1 rfl (ne_ (cw_true rfl (cw_region (pf g1 1 rfl (by kernel_rfl) (lo aggInt (hb4.ext (e8.trans e14)) [.bool sa,.slice Aa na ca] rfl rfl rfl (pf g1 3 rfl (by kernel_rfl) (lo aggInt (hb4.ext (e8.trans e14)) [.bool sb,.slice Ab nb cb] rfl rfl rfl ?_)))))))))
  have L18:ln ((Int.gcd x y:Int))≤1048576:=Nat.le_trans (ln_gcd _ _) (Nat.max_le.2 ⟨Lx,Ly⟩)
  refine cl (vs:= [.agg #[.bool sa,.slice Aa na ca],.agg #[.bool sb,.slice Ab nb cb]]) hw3 (g_bezout_Gcd hw3.size (hx.ext hw3) (lx_ la rfl) (hy.ext hw3) (lx_ lb rfl)) rfl (by kernel_rfl) fun xr21 v19 r21 e20 hw4=>?_
  obtain⟨s22,A22,n22,c22,rfl,z22⟩:=r21
  refine pf g12 0 rfl (by kernel_rfl) ?_
  have hb24:=(hb15.ext e20)
  refine so aggInt hb24 [.bool s22,.slice A22 n22 c22,F0,S0,F0,S0,S0,I0] hw4 ge16 rfl rfl rfl rfl fun v23 hb25 u26 hw5=>(wl_nil (eo_block_normal (eo_then (sr (lo aggAns6 hb25 [.bool s22,.slice A22 n22 c22,F0,S0,F0,S0,S0,I0] rfl rfl rfl ?_)))))
  have hb29:=((hb9.ext (e14.trans e20)).updN u26 (by omega))
  refine so aggAns6 hb29 [.bool s22,.slice A22 n22 c22,F0,S0,F0,S0,S0,I0] hw5 ge10 rfl rfl rfl rfl fun v28 hb30 u31 hw6=>(ne_ (cw_ret (eo_ret [.agg #[.bool s22,.slice A22 n22 c22,F0,S0,F0,S0,S0,I0]] rfl ⟨⟨_,rfl,load_agg aggAns6 hb30 [.bool s22,.slice A22 n22 c22,F0,S0,F0,S0,S0,I0] rfl (bq rfl) rfl⟩,trivial⟩ ?_)))
  have hs:spec6 k x y z u zs ys n1 n2=⟨(Int.gcd x y:Int),0,0,0,[],0⟩:=by unfold spec6;rw [if_pos hk1]
  exact⟨_,rfl,AnsR6.of hs ⟨_,_,_,_,_,_,_,_,_,_,_,_,_,_,rfl,((z22.updT hb24 u26).updT hb29 u31),((((Zr.zero (w:=v13) (base:=w.heap.size)).ext e20).updT hb24 u26).updT hb29 u31),((((Zr.zero (w:=v13) (base:=w.heap.size)).ext e20).updT hb24 u26).updT hb29 u31),lzNil6,(lx_ L18 rfl),(Nat.le_trans (by decide:ln 0≤0) (by decide)),(Nat.le_trans (by decide:ln 0≤0) (by decide))⟩,hw6⟩
 · 
  refine cw_region (wl_cmp rfl rfl rfl false (eq_f hk1) (by decide) (mv 1 rfl (ne_ (cw_false rfl (cw_seq ?_)))))
  by_cases hk2:k=2
  · 
   refine cw_region (wl_cmp rfl rfl rfl true (eq_t hk2) (by decide) (mv 1 rfl (ne_ (cw_true rfl (cw_region (pf g1 9 rfl (by kernel_rfl) (wl_load rfl rfl (load_cell (fun _=>by kernel_rfl) (hb4.ext (e8.trans e14)) rfl) (by decide) ?_)))))))
   have L33:ln (gcdL zs)≤1048576:=ln_gcdA hsum
   refine cl (vs:= [.slice A n1 c1]) hw3 (t6_b_GcdAll hw3.size (hl.ext hw3) hn1 hs) rfl (by kernel_rfl) fun xr36 v34 r36 e35 hw4=>?_
   obtain⟨s37,A37,n37,c37,rfl,z37⟩:=r36
   refine pf g12 0 rfl (by kernel_rfl) ?_
   have hb39:=(hb15.ext e35)
   refine so aggInt hb39 [.bool s37,.slice A37 n37 c37,F0,S0,F0,S0,S0,I0] hw4 ge16 rfl rfl rfl rfl fun v38 hb40 u41 hw5=>(wl_nil (eo_block_normal (eo_then (sr (lo aggAns6 hb40 [.bool s37,.slice A37 n37 c37,F0,S0,F0,S0,S0,I0] rfl rfl rfl ?_)))))
   have hb44:=((hb9.ext (e14.trans e35)).updN u41 (by omega))
   refine so aggAns6 hb44 [.bool s37,.slice A37 n37 c37,F0,S0,F0,S0,S0,I0] hw5 ge10 rfl rfl rfl rfl fun v43 hb45 u46 hw6=>(ne_ (cw_ret (eo_ret [.agg #[.bool s37,.slice A37 n37 c37,F0,S0,F0,S0,S0,I0]] rfl ⟨⟨_,rfl,load_agg aggAns6 hb45 [.bool s37,.slice A37 n37 c37,F0,S0,F0,S0,S0,I0] rfl (bq rfl) rfl⟩,trivial⟩ ?_)))
   have hs:spec6 k x y z u zs ys n1 n2=⟨gcdL zs,0,0,0,[],0⟩:=by unfold spec6;rw [if_neg hk1,if_pos hk2]
   exact⟨_,rfl,AnsR6.of hs ⟨_,_,_,_,_,_,_,_,_,_,_,_,_,_,rfl,((z37.updT hb39 u41).updT hb44 u46),((((Zr.zero (w:=v13) (base:=w.heap.size)).ext e35).updT hb39 u41).updT hb44 u46),((((Zr.zero (w:=v13) (base:=w.heap.size)).ext e35).updT hb39 u41).updT hb44 u46),lzNil6,(lx_ L33 rfl),(Nat.le_trans (by decide:ln 0≤0) (by decide)),(Nat.le_trans (by decide:ln 0≤0) (by decide))⟩,hw6⟩
  · 
   refine cw_region (wl_cmp rfl rfl rfl false (eq_f hk2) (by decide) (mv 1 rfl (ne_ (cw_false rfl (cw_seq ?_)))))
   by_cases hk3:k=3
   · 
    refine cw_region (wl_cmp rfl rfl rfl true (eq_t hk3) (by decide) (mv 1 rfl (ne_ (cw_true rfl (cw_region (pf g1 1 rfl (by kernel_rfl) (lo aggInt (hb4.ext (e8.trans e14)) [.bool sa,.slice Aa na ca] rfl rfl rfl (pf g1 3 rfl (by kernel_rfl) (lo aggInt (hb4.ext (e8.trans e14)) [.bool sb,.slice Ab nb cb] rfl rfl rfl ?_)))))))))
    have L48:ln ((Int.lcm x y:Int))≤2097152:=Nat.le_trans (ln_lcmC _ _) (Nat.add_le_add Lx Ly)
    refine cl (vs:= [.agg #[.bool sa,.slice Aa na ca],.agg #[.bool sb,.slice Ab nb cb]]) hw3 (g_bezout_Lcm hw3.size (hx.ext hw3) (lx_ la rfl) (hy.ext hw3) (lx_ lb rfl)) rfl (by kernel_rfl) fun xr51 v49 r51 e50 hw4=>?_
    obtain⟨s52,A52,n52,c52,rfl,z52⟩:=r51
    refine pf g12 0 rfl (by kernel_rfl) ?_
    have hb54:=(hb15.ext e50)
    refine so aggInt hb54 [.bool s52,.slice A52 n52 c52,F0,S0,F0,S0,S0,I0] hw4 ge16 rfl rfl rfl rfl fun v53 hb55 u56 hw5=>(wl_nil (eo_block_normal (eo_then (sr (lo aggAns6 hb55 [.bool s52,.slice A52 n52 c52,F0,S0,F0,S0,S0,I0] rfl rfl rfl ?_)))))
    have hb59:=((hb9.ext (e14.trans e50)).updN u56 (by omega))
    refine so aggAns6 hb59 [.bool s52,.slice A52 n52 c52,F0,S0,F0,S0,S0,I0] hw5 ge10 rfl rfl rfl rfl fun v58 hb60 u61 hw6=>(ne_ (cw_ret (eo_ret [.agg #[.bool s52,.slice A52 n52 c52,F0,S0,F0,S0,S0,I0]] rfl ⟨⟨_,rfl,load_agg aggAns6 hb60 [.bool s52,.slice A52 n52 c52,F0,S0,F0,S0,S0,I0] rfl (bq rfl) rfl⟩,trivial⟩ ?_)))
    have hs:spec6 k x y z u zs ys n1 n2=⟨(Int.lcm x y:Int),0,0,0,[],0⟩:=by unfold spec6;rw [if_neg hk1,if_neg hk2,if_pos hk3]
    exact⟨_,rfl,AnsR6.of hs ⟨_,_,_,_,_,_,_,_,_,_,_,_,_,_,rfl,((z52.updT hb54 u56).updT hb59 u61),((((Zr.zero (w:=v13) (base:=w.heap.size)).ext e50).updT hb54 u56).updT hb59 u61),((((Zr.zero (w:=v13) (base:=w.heap.size)).ext e50).updT hb54 u56).updT hb59 u61),lzNil6,(lx_ L48 rfl),(Nat.le_trans (by decide:ln 0≤0) (by decide)),(Nat.le_trans (by decide:ln 0≤0) (by decide))⟩,hw6⟩
   · 
    refine cw_region (wl_cmp rfl rfl rfl false (eq_f hk3) (by decide) (mv 1 rfl (ne_ (cw_false rfl (cw_seq ?_)))))
    by_cases hk4:k=4
    · 
     refine cw_region (wl_cmp rfl rfl rfl true (eq_t hk4) (by decide) (mv 1 rfl (ne_ (cw_true rfl (cw_region (pf g1 1 rfl (by kernel_rfl) (lo aggInt (hb4.ext (e8.trans e14)) [.bool sa,.slice Aa na ca] rfl rfl rfl (pf g1 3 rfl (by kernel_rfl) (lo aggInt (hb4.ext (e8.trans e14)) [.bool sb,.slice Ab nb cb] rfl rfl rfl ?_)))))))))
     have L63:ln ((Int.gcd x y:Int))≤1048576:=Nat.le_trans (ln_gcd _ _) (Nat.max_le.2 ⟨Lx,Ly⟩)
     have L64:ln (bzu x y)≤1048577:=(bzs x y).ln_u Lx Ly
     have L65:ln (bzv x y)≤1048577:=(bzs x y).ln_v Lx Ly
     refine cl (vs:= [.agg #[.bool sa,.slice Aa na ca],.agg #[.bool sb,.slice Ab nb cb]]) hw3 (t6_b_Ext hw3.size (hx.ext hw3) (lx_ la rfl) (hy.ext hw3) (lx_ lb rfl)) rfl (by kernel_rfl) fun xr68 v66 r68 e67 hw4=>?_
     obtain⟨_,_,_,rfl,⟨s70,A70,n70,c70,rfl,z70⟩,⟨s71,A71,n71,c71,rfl,z71⟩,⟨s72,A72,n72,c72,rfl,z72⟩⟩:=r68
     refine mv 1 rfl (pu (v:= .agg #[.bool s70,.slice A70 n70 c70]) rfl (by kernel_rfl) (pu (v:= .agg #[.bool s71,.slice A71 n71 c71]) rfl (by kernel_rfl) (pu (v:= .agg #[.bool s72,.slice A72 n72 c72]) rfl (by kernel_rfl) (pf g12 0 rfl (by kernel_rfl) ?_))))
     have hb74:=(hb15.ext e67)
     refine so aggInt hb74 [.bool s70,.slice A70 n70 c70,F0,S0,F0,S0,S0,I0] hw4 ge16 rfl rfl rfl rfl fun v73 hb75 u76 hw5=>(pf g12 2 rfl (by kernel_rfl) (so aggInt hb75 [.bool s70,.slice A70 n70 c70,.bool s71,.slice A71 n71 c71,F0,S0,S0,I0] hw5 ge16 rfl rfl rfl rfl fun v78 hb80 u81 hw6=>(pf g12 4 rfl (by kernel_rfl) (so aggInt hb80 [.bool s70,.slice A70 n70 c70,.bool s71,.slice A71 n71 c71,.bool s72,.slice A72 n72 c72,S0,I0] hw6 ge16 rfl rfl rfl rfl fun v83 hb85 u86 hw7=>(wl_nil (eo_block_normal (eo_then (sr (lo aggAns6 hb85 [.bool s70,.slice A70 n70 c70,.bool s71,.slice A71 n71 c71,.bool s72,.slice A72 n72 c72,S0,I0] rfl rfl rfl ?_)))))))))
     have hb89:=((((hb9.ext (e14.trans e67)).updN u76 (by omega)).updN u81 (by omega)).updN u86 (by omega))
     refine so aggAns6 hb89 [.bool s70,.slice A70 n70 c70,.bool s71,.slice A71 n71 c71,.bool s72,.slice A72 n72 c72,S0,I0] hw7 ge10 rfl rfl rfl rfl fun v88 hb90 u91 hw8=>(ne_ (cw_ret (eo_ret [.agg #[.bool s70,.slice A70 n70 c70,.bool s71,.slice A71 n71 c71,.bool s72,.slice A72 n72 c72,S0,I0]] rfl ⟨⟨_,rfl,load_agg aggAns6 hb90 [.bool s70,.slice A70 n70 c70,.bool s71,.slice A71 n71 c71,.bool s72,.slice A72 n72 c72,S0,I0] rfl (bq rfl) rfl⟩,trivial⟩ ?_)))
     have hs:spec6 k x y z u zs ys n1 n2=⟨(Int.gcd x y:Int),bzu x y,bzv x y,0,[],0⟩:=by unfold spec6;rw [if_neg hk1,if_neg hk2,if_neg hk3,if_pos hk4]
     exact⟨_,rfl,AnsR6.of hs ⟨_,_,_,_,_,_,_,_,_,_,_,_,_,_,rfl,((((z70.updT hb74 u76).updT hb75 u81).updT hb80 u86).updT hb89 u91),((((z71.updT hb74 u76).updT hb75 u81).updT hb80 u86).updT hb89 u91),((((z72.updT hb74 u76).updT hb75 u81).updT hb80 u86).updT hb89 u91),lzNil6,(lx_ L63 rfl),(lx_ L64 rfl),(lx_ L65 rfl)⟩,hw8⟩
    · 
     refine cw_region (wl_cmp rfl rfl rfl false (eq_f hk4) (by decide) (mv 1 rfl (ne_ (cw_false rfl (cw_seq ?_)))))
     by_cases hk5:k=5
     · 
      refine cw_region (wl_cmp rfl rfl rfl true (eq_t hk5) (by decide) (mv 1 rfl (ne_ (cw_true rfl (cw_region (pf g1 9 rfl (by kernel_rfl) (wl_load rfl rfl (load_cell (fun _=>by kernel_rfl) (hb4.ext (e8.trans e14)) rfl) (by decide) ?_)))))))
      have q93:g1<v13.heap.size:=(hb4.ext (e8.trans e14)).lt
      have q94:g6<v13.heap.size:=(hb9.ext e14).lt
      have q95:g12<v13.heap.size:=hb15.lt
      have hgl0:w.heap.size≤v13.heap.size:=hw3.size
      have L96:ln (gcdL zs)≤1048576:=ln_gcdA hsum
      refine cl (vs:= [.slice A n1 c1]) hw3 (t6_b_ExtAll hw3.size (Nat.le_refl _) (hl.ext hw3) hn1 hs) rfl (by kernel_rfl) fun xr99 v97 r99 e98 hw4=>?_
      obtain⟨_,_,rfl,⟨s101,A101,n101,c101,rfl,z101⟩,⟨A102,c102,rfl,lz102⟩⟩:=r99
      have blk103:=lz102.block
      refine mv 1 rfl (pu (v:= .agg #[.bool s101,.slice A101 n101 c101]) rfl (by kernel_rfl) (pu (v:= .slice A102 n1 c102) rfl (by kernel_rfl) (pf g12 0 rfl (by kernel_rfl) ?_)))
      have hb105:=(hb15.ext e98)
      refine so aggInt hb105 [.bool s101,.slice A101 n101 c101,F0,S0,F0,S0,S0,I0] hw4 ge16 rfl rfl rfl rfl fun v104 hb106 u107 hw5=>(pf g12 6 rfl (by kernel_rfl) (wl_stored1 rfl rfl rfl (fun _=>by kernel_rfl) rfl hb106 (bq rfl) rfl [.bool s101,.slice A101 n101 c101,F0,S0,F0,S0,.slice A102 n1 c102,I0] rfl fun v109 hb111 u112 hs113=>?_))
      have hw6:=u112.ext hw5 ge16
      refine wl_nil (eo_block_normal (eo_then (sr (lo aggAns6 hb111 [.bool s101,.slice A101 n101 c101,F0,S0,F0,S0,.slice A102 n1 c102,I0] rfl rfl rfl ?_))))
      have hb115:=(((hb9.ext (e14.trans e98)).updN u107 (by omega)).updN u112 (by omega))
      refine so aggAns6 hb115 [.bool s101,.slice A101 n101 c101,F0,S0,F0,S0,.slice A102 n1 c102,I0] hw6 ge10 rfl rfl rfl rfl fun v114 hb116 u117 hw7=>(ne_ (cw_ret (eo_ret [.agg #[.bool s101,.slice A101 n101 c101,F0,S0,F0,S0,.slice A102 n1 c102,I0]] rfl ⟨⟨_,rfl,load_agg aggAns6 hb116 [.bool s101,.slice A101 n101 c101,F0,S0,F0,S0,.slice A102 n1 c102,I0] rfl (bq rfl) rfl⟩,trivial⟩ ?_)))
      have hs:spec6 k x y z u zs ys n1 n2=⟨gcdL zs,0,0,n1,exRv zs.reverse,0⟩:=by unfold spec6;rw [if_neg hk1,if_neg hk2,if_neg hk3,if_neg hk4,if_pos hk5]
      exact⟨_,rfl,AnsR6.of hs ⟨_,_,_,_,_,_,_,_,_,_,_,_,_,_,rfl,(((z101.updT hb105 u107).updT hb106 u112).updT hb115 u117),(((((Zr.zero (w:=v13) (base:=w.heap.size)).ext e98).updT hb105 u107).updT hb106 u112).updT hb115 u117),(((((Zr.zero (w:=v13) (base:=w.heap.size)).ext e98).updT hb105 u107).updT hb106 u112).updT hb115 u117),(((((lz102.updT hb105 u107 (fun p hp=>by have:=blk103 p hp;omega)).updT hb106 u112 (fun p hp=>by have:=blk103 p hp;omega)).updT hb115 u117 (fun p hp=>by have:=blk103 p hp;omega))).mono (Nat.le_refl _) (Nat.le_refl _) hgl0),(lx_ L96 rfl),(Nat.le_trans (by decide:ln 0≤0) (by decide)),(Nat.le_trans (by decide:ln 0≤0) (by decide))⟩,hw7⟩
     · 
      refine cw_region (wl_cmp rfl rfl rfl false (eq_f hk5) (by decide) (mv 1 rfl (ne_ (cw_false rfl (cw_seq ?_)))))
      by_cases hk6:k=6
      · 
       refine cw_region (wl_cmp rfl rfl rfl true (eq_t hk6) (by decide) (mv 1 rfl (ne_ (cw_true rfl (cw_region (pf g1 1 rfl (by kernel_rfl) (lo aggInt (hb4.ext (e8.trans e14)) [.bool sa,.slice Aa na ca] rfl rfl rfl (pf g1 3 rfl (by kernel_rfl) (lo aggInt (hb4.ext (e8.trans e14)) [.bool sb,.slice Ab nb cb] rfl rfl rfl ?_)))))))))
       have L119:ln (ivV x y)≤1048577:=ln_ivV Lx Ly
       refine cl (vs:= [.agg #[.bool sa,.slice Aa na ca],.agg #[.bool sb,.slice Ab nb cb]]) hw3 (t6_b_Inverse hw3.size (hx.ext hw3) (lx_ la rfl) (hy.ext hw3) (lx_ lb rfl)) rfl (by kernel_rfl) fun xr122 v120 r122 e121 hw4=>?_
       obtain⟨_,_,rfl,⟨s124,A124,n124,c124,rfl,z124⟩,rfl⟩:=r122
       refine mv 1 rfl (pu (v:= .agg #[.bool s124,.slice A124 n124 c124]) rfl (by kernel_rfl) (pu (v:= .int .i64 (ivE x y)) rfl (by kernel_rfl) (pf g12 0 rfl (by kernel_rfl) ?_)))
       have hb126:=(hb15.ext e121)
       refine so aggInt hb126 [.bool s124,.slice A124 n124 c124,F0,S0,F0,S0,S0,I0] hw4 ge16 rfl rfl rfl rfl fun v125 hb127 u128 hw5=>(pf g12 7 rfl (by kernel_rfl) (wl_stored1 rfl rfl rfl (fun _=>by kernel_rfl) rfl hb127 (bq rfl) rfl [.bool s124,.slice A124 n124 c124,F0,S0,F0,S0,S0,.int .i64 (ivE x y)] rfl fun v130 hb132 u133 hs134=>?_))
       have hw6:=u133.ext hw5 ge16
       refine wl_nil (eo_block_normal (eo_then (sr (lo aggAns6 hb132 [.bool s124,.slice A124 n124 c124,F0,S0,F0,S0,S0,.int .i64 (ivE x y)] rfl rfl rfl ?_))))
       have hb136:=(((hb9.ext (e14.trans e121)).updN u128 (by omega)).updN u133 (by omega))
       refine so aggAns6 hb136 [.bool s124,.slice A124 n124 c124,F0,S0,F0,S0,S0,.int .i64 (ivE x y)] hw6 ge10 rfl rfl rfl rfl fun v135 hb137 u138 hw7=>(ne_ (cw_ret (eo_ret [.agg #[.bool s124,.slice A124 n124 c124,F0,S0,F0,S0,S0,.int .i64 (ivE x y)]] rfl ⟨⟨_,rfl,load_agg aggAns6 hb137 [.bool s124,.slice A124 n124 c124,F0,S0,F0,S0,S0,.int .i64 (ivE x y)] rfl (bq rfl) rfl⟩,trivial⟩ ?_)))
       have hs:spec6 k x y z u zs ys n1 n2=⟨ivV x y,0,0,0,[],ivE x y⟩:=by unfold spec6;rw [if_neg hk1,if_neg hk2,if_neg hk3,if_neg hk4,if_neg hk5,if_pos hk6]
       exact⟨_,rfl,AnsR6.of hs ⟨_,_,_,_,_,_,_,_,_,_,_,_,_,_,rfl,(((z124.updT hb126 u128).updT hb127 u133).updT hb136 u138),(((((Zr.zero (w:=v13) (base:=w.heap.size)).ext e121).updT hb126 u128).updT hb127 u133).updT hb136 u138),(((((Zr.zero (w:=v13) (base:=w.heap.size)).ext e121).updT hb126 u128).updT hb127 u133).updT hb136 u138),lzNil6,(lx_ L119 rfl),(Nat.le_trans (by decide:ln 0≤0) (by decide)),(Nat.le_trans (by decide:ln 0≤0) (by decide))⟩,hw7⟩
      · 
       refine cw_region (wl_cmp rfl rfl rfl false (eq_f hk6) (by decide) (mv 1 rfl (ne_ (cw_false rfl (cw_seq ?_)))))
       by_cases hk7:k=7
       · 
        refine cw_region (wl_cmp rfl rfl rfl true (eq_t hk7) (by decide) (mv 1 rfl (ne_ (cw_true rfl (cw_region (pf g1 1 rfl (by kernel_rfl) (lo aggInt (hb4.ext (e8.trans e14)) [.bool sa,.slice Aa na ca] rfl rfl rfl (pf g1 3 rfl (by kernel_rfl) (lo aggInt (hb4.ext (e8.trans e14)) [.bool sb,.slice Ab nb cb] rfl rfl rfl (pf g1 5 rfl (by kernel_rfl) (lo aggInt (hb4.ext (e8.trans e14)) [.bool sd,.slice Ad nd cd] rfl rfl rfl ?_)))))))))))
        have L140:ln (pmV x y z)≤1048576:=ln_pmV Lz
        refine cl (vs:= [.agg #[.bool sa,.slice Aa na ca],.agg #[.bool sb,.slice Ab nb cb],.agg #[.bool sd,.slice Ad nd cd]]) hw3 (t6_b_PowMod hw3.size (hx.ext hw3) (lx_ la rfl) (hy.ext hw3) (lx_ lb rfl) (hz.ext hw3) (lx_ ld rfl)) rfl (by kernel_rfl) fun xr143 v141 r143 e142 hw4=>?_
        obtain⟨_,_,rfl,⟨s145,A145,n145,c145,rfl,z145⟩,rfl⟩:=r143
        refine mv 1 rfl (pu (v:= .agg #[.bool s145,.slice A145 n145 c145]) rfl (by kernel_rfl) (pu (v:= .int .i64 (pmE y z)) rfl (by kernel_rfl) (pf g12 0 rfl (by kernel_rfl) ?_)))
        have hb147:=(hb15.ext e142)
        refine so aggInt hb147 [.bool s145,.slice A145 n145 c145,F0,S0,F0,S0,S0,I0] hw4 ge16 rfl rfl rfl rfl fun v146 hb148 u149 hw5=>(pf g12 7 rfl (by kernel_rfl) (wl_stored1 rfl rfl rfl (fun _=>by kernel_rfl) rfl hb148 (bq rfl) rfl [.bool s145,.slice A145 n145 c145,F0,S0,F0,S0,S0,.int .i64 (pmE y z)] rfl fun v151 hb153 u154 hs155=>?_))
        have hw6:=u154.ext hw5 ge16
        refine wl_nil (eo_block_normal (eo_then (sr (lo aggAns6 hb153 [.bool s145,.slice A145 n145 c145,F0,S0,F0,S0,S0,.int .i64 (pmE y z)] rfl rfl rfl ?_))))
        have hb157:=(((hb9.ext (e14.trans e142)).updN u149 (by omega)).updN u154 (by omega))
        refine so aggAns6 hb157 [.bool s145,.slice A145 n145 c145,F0,S0,F0,S0,S0,.int .i64 (pmE y z)] hw6 ge10 rfl rfl rfl rfl fun v156 hb158 u159 hw7=>(ne_ (cw_ret (eo_ret [.agg #[.bool s145,.slice A145 n145 c145,F0,S0,F0,S0,S0,.int .i64 (pmE y z)]] rfl ⟨⟨_,rfl,load_agg aggAns6 hb158 [.bool s145,.slice A145 n145 c145,F0,S0,F0,S0,S0,.int .i64 (pmE y z)] rfl (bq rfl) rfl⟩,trivial⟩ ?_)))
        have hs:spec6 k x y z u zs ys n1 n2=⟨pmV x y z,0,0,0,[],pmE y z⟩:=by unfold spec6;rw [if_neg hk1,if_neg hk2,if_neg hk3,if_neg hk4,if_neg hk5,if_neg hk6,if_pos hk7]
        exact⟨_,rfl,AnsR6.of hs ⟨_,_,_,_,_,_,_,_,_,_,_,_,_,_,rfl,(((z145.updT hb147 u149).updT hb148 u154).updT hb157 u159),(((((Zr.zero (w:=v13) (base:=w.heap.size)).ext e142).updT hb147 u149).updT hb148 u154).updT hb157 u159),(((((Zr.zero (w:=v13) (base:=w.heap.size)).ext e142).updT hb147 u149).updT hb148 u154).updT hb157 u159),lzNil6,(lx_ L140 rfl),(Nat.le_trans (by decide:ln 0≤0) (by decide)),(Nat.le_trans (by decide:ln 0≤0) (by decide))⟩,hw7⟩
       · 
        refine cw_region (wl_cmp rfl rfl rfl false (eq_f hk7) (by decide) (mv 1 rfl (ne_ (cw_false rfl (cw_seq ?_)))))
        by_cases hk8:k=8
        · 
         refine cw_region (wl_cmp rfl rfl rfl true (eq_t hk8) (by decide) (mv 1 rfl (ne_ (cw_true rfl (cw_region (pf g1 1 rfl (by kernel_rfl) (lo aggInt (hb4.ext (e8.trans e14)) [.bool sa,.slice Aa na ca] rfl rfl rfl (pf g1 3 rfl (by kernel_rfl) (lo aggInt (hb4.ext (e8.trans e14)) [.bool sb,.slice Ab nb cb] rfl rfl rfl (pf g1 5 rfl (by kernel_rfl) (lo aggInt (hb4.ext (e8.trans e14)) [.bool sd,.slice Ad nd cd] rfl rfl rfl (pf g1 7 rfl (by kernel_rfl) (lo aggInt (hb4.ext (e8.trans e14)) [.bool se,.slice Ae ne ce] rfl rfl rfl ?_)))))))))))))
         have L161:ln (crV x y z u)≤2097152:=ln_crV Ly Lu
         have L162:ln (crM x y z u)≤2097152:=ln_crM Ly Lu
         refine cl (vs:= [.agg #[.bool sa,.slice Aa na ca],.agg #[.bool sb,.slice Ab nb cb],.agg #[.bool sd,.slice Ad nd cd],.agg #[.bool se,.slice Ae ne ce]]) hw3 (t6_b_Crt hw3.size (hx.ext hw3) (lx_ la rfl) (hy.ext hw3) (lx_ lb rfl) (hz.ext hw3) (lx_ ld rfl) (hu.ext hw3) (lx_ le rfl)) rfl (by kernel_rfl) fun xr165 v163 r165 e164 hw4=>?_
         obtain⟨_,_,_,rfl,⟨s167,A167,n167,c167,rfl,z167⟩,⟨s168,A168,n168,c168,rfl,z168⟩,rfl⟩:=r165
         refine mv 1 rfl (pu (v:= .agg #[.bool s167,.slice A167 n167 c167]) rfl (by kernel_rfl) (pu (v:= .agg #[.bool s168,.slice A168 n168 c168]) rfl (by kernel_rfl) (pu (v:= .int .i64 (crE x y z u)) rfl (by kernel_rfl) (pf g12 0 rfl (by kernel_rfl) ?_))))
         have hb170:=(hb15.ext e164)
         refine so aggInt hb170 [.bool s167,.slice A167 n167 c167,F0,S0,F0,S0,S0,I0] hw4 ge16 rfl rfl rfl rfl fun v169 hb171 u172 hw5=>(pf g12 2 rfl (by kernel_rfl) (so aggInt hb171 [.bool s167,.slice A167 n167 c167,.bool s168,.slice A168 n168 c168,F0,S0,S0,I0] hw5 ge16 rfl rfl rfl rfl fun v174 hb176 u177 hw6=>(pf g12 7 rfl (by kernel_rfl) (wl_stored1 rfl rfl rfl (fun _=>by kernel_rfl) rfl hb176 (bq rfl) rfl [.bool s167,.slice A167 n167 c167,.bool s168,.slice A168 n168 c168,F0,S0,S0,.int .i64 (crE x y z u)] rfl fun v179 hb181 u182 hs183=>?_))))
         have hw7:=u182.ext hw6 ge16
         refine wl_nil (eo_block_normal (eo_then (sr (lo aggAns6 hb181 [.bool s167,.slice A167 n167 c167,.bool s168,.slice A168 n168 c168,F0,S0,S0,.int .i64 (crE x y z u)] rfl rfl rfl ?_))))
         have hb185:=((((hb9.ext (e14.trans e164)).updN u172 (by omega)).updN u177 (by omega)).updN u182 (by omega))
         refine so aggAns6 hb185 [.bool s167,.slice A167 n167 c167,.bool s168,.slice A168 n168 c168,F0,S0,S0,.int .i64 (crE x y z u)] hw7 ge10 rfl rfl rfl rfl fun v184 hb186 u187 hw8=>(ne_ (cw_ret (eo_ret [.agg #[.bool s167,.slice A167 n167 c167,.bool s168,.slice A168 n168 c168,F0,S0,S0,.int .i64 (crE x y z u)]] rfl ⟨⟨_,rfl,load_agg aggAns6 hb186 [.bool s167,.slice A167 n167 c167,.bool s168,.slice A168 n168 c168,F0,S0,S0,.int .i64 (crE x y z u)] rfl (bq rfl) rfl⟩,trivial⟩ ?_)))
         have hs:spec6 k x y z u zs ys n1 n2=⟨crV x y z u,crM x y z u,0,0,[],crE x y z u⟩:=by unfold spec6;rw [if_neg hk1,if_neg hk2,if_neg hk3,if_neg hk4,if_neg hk5,if_neg hk6,if_neg hk7,if_pos hk8]
         exact⟨_,rfl,AnsR6.of hs ⟨_,_,_,_,_,_,_,_,_,_,_,_,_,_,rfl,((((z167.updT hb170 u172).updT hb171 u177).updT hb176 u182).updT hb185 u187),((((z168.updT hb170 u172).updT hb171 u177).updT hb176 u182).updT hb185 u187),((((((Zr.zero (w:=v13) (base:=w.heap.size)).ext e164).updT hb170 u172).updT hb171 u177).updT hb176 u182).updT hb185 u187),lzNil6,(lx_ L161 rfl),(lx_ L162 rfl),(Nat.le_trans (by decide:ln 0≤0) (by decide))⟩,hw8⟩
        · 
         refine cw_region (wl_cmp rfl rfl rfl false (eq_f hk8) (by decide) (mv 1 rfl (ne_ (cw_false rfl (cw_seq ?_)))))
         by_cases hk9:k=9
         · 
          refine cw_region (wl_cmp rfl rfl rfl true (eq_t hk9) (by decide) (mv 1 rfl (ne_ (cw_true rfl (cw_region (pf g1 9 rfl (by kernel_rfl) (wl_load rfl rfl (load_cell (fun _=>by kernel_rfl) (hb4.ext (e8.trans e14)) rfl) (by decide) (pf g1 10 rfl (by kernel_rfl) (wl_load rfl rfl (load_cell (fun _=>by kernel_rfl) (hb4.ext (e8.trans e14)) rfl) (by decide) ?_)))))))))
          have L189:ln (caV zs ys n1 n2)≤1048577:=ln_caV hl2.len hsum2
          have L190:ln (caM zs ys n1 n2)≤1048577:=ln_caM hsum2
          refine cl (vs:= [.slice A n1 c1,.slice C n2 c2]) hw3 (t6_b_CrtAll hw3.size (hl.ext hw3) (hl2.ext hw3) hn1 hn2 hs hs2) rfl (by kernel_rfl) fun xr193 v191 r193 e192 hw4=>?_
          obtain⟨_,_,_,rfl,⟨s195,A195,n195,c195,rfl,z195⟩,⟨s196,A196,n196,c196,rfl,z196⟩,rfl⟩:=r193
          refine mv 1 rfl (pu (v:= .agg #[.bool s195,.slice A195 n195 c195]) rfl (by kernel_rfl) (pu (v:= .agg #[.bool s196,.slice A196 n196 c196]) rfl (by kernel_rfl) (pu (v:= .int .i64 (caE zs ys n1 n2)) rfl (by kernel_rfl) (pf g12 0 rfl (by kernel_rfl) ?_))))
          have hb198:=(hb15.ext e192)
          refine so aggInt hb198 [.bool s195,.slice A195 n195 c195,F0,S0,F0,S0,S0,I0] hw4 ge16 rfl rfl rfl rfl fun v197 hb199 u200 hw5=>(pf g12 2 rfl (by kernel_rfl) (so aggInt hb199 [.bool s195,.slice A195 n195 c195,.bool s196,.slice A196 n196 c196,F0,S0,S0,I0] hw5 ge16 rfl rfl rfl rfl fun v202 hb204 u205 hw6=>(pf g12 7 rfl (by kernel_rfl) (wl_stored1 rfl rfl rfl (fun _=>by kernel_rfl) rfl hb204 (bq rfl) rfl [.bool s195,.slice A195 n195 c195,.bool s196,.slice A196 n196 c196,F0,S0,S0,.int .i64 (caE zs ys n1 n2)] rfl fun v207 hb209 u210 hs211=>?_))))
          have hw7:=u210.ext hw6 ge16
          refine wl_nil (eo_block_normal (eo_then (sr (lo aggAns6 hb209 [.bool s195,.slice A195 n195 c195,.bool s196,.slice A196 n196 c196,F0,S0,S0,.int .i64 (caE zs ys n1 n2)] rfl rfl rfl ?_))))
          have hb213:=((((hb9.ext (e14.trans e192)).updN u200 (by omega)).updN u205 (by omega)).updN u210 (by omega))
          refine so aggAns6 hb213 [.bool s195,.slice A195 n195 c195,.bool s196,.slice A196 n196 c196,F0,S0,S0,.int .i64 (caE zs ys n1 n2)] hw7 ge10 rfl rfl rfl rfl fun v212 hb214 u215 hw8=>(ne_ (cw_ret (eo_ret [.agg #[.bool s195,.slice A195 n195 c195,.bool s196,.slice A196 n196 c196,F0,S0,S0,.int .i64 (caE zs ys n1 n2)]] rfl ⟨⟨_,rfl,load_agg aggAns6 hb214 [.bool s195,.slice A195 n195 c195,.bool s196,.slice A196 n196 c196,F0,S0,S0,.int .i64 (caE zs ys n1 n2)] rfl (bq rfl) rfl⟩,trivial⟩ ?_)))
          have hs:spec6 k x y z u zs ys n1 n2=⟨caV zs ys n1 n2,caM zs ys n1 n2,0,0,[],caE zs ys n1 n2⟩:=by unfold spec6;rw [if_neg hk1,if_neg hk2,if_neg hk3,if_neg hk4,if_neg hk5,if_neg hk6,if_neg hk7,if_neg hk8,if_pos hk9]
          exact⟨_,rfl,AnsR6.of hs ⟨_,_,_,_,_,_,_,_,_,_,_,_,_,_,rfl,((((z195.updT hb198 u200).updT hb199 u205).updT hb204 u210).updT hb213 u215),((((z196.updT hb198 u200).updT hb199 u205).updT hb204 u210).updT hb213 u215),((((((Zr.zero (w:=v13) (base:=w.heap.size)).ext e192).updT hb198 u200).updT hb199 u205).updT hb204 u210).updT hb213 u215),lzNil6,(lx_ L189 rfl),(lx_ L190 rfl),(Nat.le_trans (by decide:ln 0≤0) (by decide))⟩,hw8⟩
         · 
          refine cw_region (wl_cmp rfl rfl rfl false (eq_f hk9) (by decide) (mv 1 rfl (ne_ (cw_false rfl (cw_skip (eo_block_normal (eo_then (sr (lo aggAns6 hb15 [F0,S0,F0,S0,F0,S0,S0,I0] rfl rfl rfl ?_)))))))))
          have hb218:=(hb9.ext e14)
          refine so aggAns6 hb218 [F0,S0,F0,S0,F0,S0,S0,I0] hw3 ge10 rfl rfl rfl rfl fun v217 hb219 u220 hw4=>(ne_ (cw_ret (eo_ret [.agg #[F0,S0,F0,S0,F0,S0,S0,I0]] rfl ⟨⟨_,rfl,load_agg aggAns6 hb219 [F0,S0,F0,S0,F0,S0,S0,I0] rfl (bq rfl) rfl⟩,trivial⟩ ?_)))
          have hs:spec6 k x y z u zs ys n1 n2=⟨0,0,0,0,[],0⟩:=by unfold spec6;rw [if_neg hk1,if_neg hk2,if_neg hk3,if_neg hk4,if_neg hk5,if_neg hk6,if_neg hk7,if_neg hk8,if_neg hk9]
          exact⟨_,rfl,AnsR6.of hs ⟨_,_,_,_,_,_,_,_,_,_,_,_,_,_,rfl,((Zr.zero (w:=v13) (base:=w.heap.size)).updT hb218 u220),((Zr.zero (w:=v13) (base:=w.heap.size)).updT hb218 u220),((Zr.zero (w:=v13) (base:=w.heap.size)).updT hb218 u220),lzNil6,(Nat.le_trans (by decide:ln 0≤0) (by decide)),(Nat.le_trans (by decide:ln 0≤0) (by decide)),(Nat.le_trans (by decide:ln 0≤0) (by decide))⟩,hw4⟩
theorem g_plays6 {w:World}{b:Nat}(hb:b≤w.heap.size){k x y z u:Int}{zs ys:List Int}{n1 n2:Nat}{v:Value}(h:Op6 w k x y z u zs ys n1 n2 v):
  Calls Tryz.prog 13 #[v] w (Gv w (AnsR6 b (spec6 k x y z u zs ys n1 n2))):=by
 obtain⟨sa,Aa,na,ca,sb,Ab,nb,cb,sd,Ad,nd,cd,se,Ae,ne,ce,A,c1,ms,C,c2,ms2,rfl,h1,h2,h3,h4,h5,h6,h7,h8,h9,h10,h11,h12,h13,h14⟩:=h
 exact (g_plays6I h1 h2 h3 h4 h5 h6 h7 h8 h9 h10 h11 h12 h13 h14).mono (Gv.imp (AnsR6.imp hb))
set_option maxHeartbeats 16000000 in
set_option maxRecDepth 20000 in
theorem g_wants6I {w:World}{k:Int}{A C:Option Addr}{n1 c1 n2 c2:Nat}{zs ys:List Int}{ms ms2:List Nat}{sa:Bool}{Aa:Option Addr}{na ca:Nat}{x:Int}{sb:Bool}{Ab:Option Addr}{nb cb:Nat}{y:Int}{sd:Bool}{Ad:Option Addr}{nd cd:Nat}{z:Int}{se:Bool}{Ae:Option Addr}{ne ce:Nat}{u:Int}(hx:Zi w sa Aa na ca x) (la:na≤1048576) (hy:Zi w sb Ab nb cb y) (lb:nb≤1048576) (hz:Zi w sd Ad nd cd z) (ld:nd≤1048576) (hu:Zi w se Ae ne ce u) (le:ne≤1048576) (hl:Zl w A n1 c1 zs ms) (hs:ms.sum≤1048576) (hl2:Zl w C n2 c2 ys ms2) (hs2:ms2.sum≤1048576) (hn1:n1≤1048576) (hn2:n2≤1048576):
    Calls Tryz.prog 12 #[.agg #[.int .i64 k,.bool sa,.slice Aa na ca,.bool sb,.slice Ab nb cb,.bool sd,.slice Ad nd cd,.bool se,.slice Ae ne ce,.slice A n1 c1,.slice C n2 c2]] w (Gv w (AnsR6 w.heap.size (spec6 k x y z u zs ys n1 n2))):=by
 have Lx:ln x≤1048576:=Nat.le_trans hx.ln la
 have Ly:ln y≤1048576:=Nat.le_trans hy.ln lb
 have Lz:ln z≤1048576:=Nat.le_trans hz.ln ld
 have Lu:ln u≤1048576:=Nat.le_trans hu.ln le
 have hsum:=Nat.le_trans (sum_ln_le6 hl) hs
 have hsum2:=Nat.le_trans (sum_ln_le6 hl2) hs2
 refine sx_enter Tryz.func12 rfl (n:=111) rfl (bq rfl) (args:= [.agg #[.int .i64 k,.bool sa,.slice Aa na ca,.bool sb,.slice Ab nb cb,.bool sd,.slice Ad nd cd,.bool se,.slice Ae ne ce,.slice A n1 c1,.slice C n2 c2]]) (cw_keep [(0,.agg #[.int .i64 k,.bool sa,.slice Aa na ca,.bool sb,.slice Ab nb cb,.bool sd,.slice Ad nd cd,.bool se,.slice Ae ne ce,.slice A n1 c1,.slice C n2 c2])] ⟨rfl,trivial⟩ (sr (bx [.int .i64 k,.bool sa,.slice Aa na ca,.bool sb,.slice Ab nb cb,.bool sd,.slice Ad nd cd,.bool se,.slice Ae ne ce,.slice A n1 c1,.slice C n2 c2] (Ext.refl w) rfl rfl rfl fun g1 v2 hb4 ge5 e3 hw1=>(alq [F0,S0,F0,S0,F0,S0,S0,I0] hw1 hb4.lt (fun _=>by kernel_rfl) rfl fun g6 v7 hb9 ge10 q11 e8 hw2=>(ne_ (sr (alq [F0,S0,F0,S0,F0,S0,S0,I0] hw2 hb9.lt (fun _=>by kernel_rfl) rfl fun g12 v13 hb15 ge16 q17 e14 hw3=>(ne_ (cw_seq (sr (pf g1 0 rfl (by kernel_rfl) (wl_load rfl rfl (load_cell (fun _=>by kernel_rfl) (hb4.ext (e8.trans e14)) rfl) (by decide) (wl_nil ?_)))))))))))))
 refine eo_then (cw_block (cw_seq ?_))
 by_cases hk1:k=1
 · 
  refine cw_region (wl_cmp rfl rfl rfl true (eq_t hk1) (by decide) (mv 1 rfl (ne_ (cw_true rfl (cw_region (pf g1 1 rfl (by kernel_rfl) (lo aggInt (hb4.ext (e8.trans e14)) [.bool sa,.slice Aa na ca] rfl rfl rfl (pf g1 3 rfl (by kernel_rfl) (lo aggInt (hb4.ext (e8.trans e14)) [.bool sb,.slice Ab nb cb] rfl rfl rfl ?_)))))))))
  have L18:ln ((Int.gcd x y:Int))≤1048576:=Nat.le_trans (ln_gcd _ _) (Nat.max_le.2 ⟨Lx,Ly⟩)
  refine cl (vs:= [.agg #[.bool sa,.slice Aa na ca],.agg #[.bool sb,.slice Ab nb cb]]) hw3 (g_ref6_Gcd hw3.size (hx.ext hw3) (lx_ la rfl) (hy.ext hw3) (lx_ lb rfl)) rfl (by kernel_rfl) fun xr21 v19 r21 e20 hw4=>?_
  obtain⟨s22,A22,n22,c22,rfl,z22⟩:=r21
  refine pf g12 0 rfl (by kernel_rfl) ?_
  have hb24:=(hb15.ext e20)
  refine so aggInt hb24 [.bool s22,.slice A22 n22 c22,F0,S0,F0,S0,S0,I0] hw4 ge16 rfl rfl rfl rfl fun v23 hb25 u26 hw5=>(wl_nil (eo_block_normal (eo_then (sr (lo aggAns6 hb25 [.bool s22,.slice A22 n22 c22,F0,S0,F0,S0,S0,I0] rfl rfl rfl ?_)))))
  have hb29:=((hb9.ext (e14.trans e20)).updN u26 (by omega))
  refine so aggAns6 hb29 [.bool s22,.slice A22 n22 c22,F0,S0,F0,S0,S0,I0] hw5 ge10 rfl rfl rfl rfl fun v28 hb30 u31 hw6=>(ne_ (cw_ret (eo_ret [.agg #[.bool s22,.slice A22 n22 c22,F0,S0,F0,S0,S0,I0]] rfl ⟨⟨_,rfl,load_agg aggAns6 hb30 [.bool s22,.slice A22 n22 c22,F0,S0,F0,S0,S0,I0] rfl (bq rfl) rfl⟩,trivial⟩ ?_)))
  have hs:spec6 k x y z u zs ys n1 n2=⟨(Int.gcd x y:Int),0,0,0,[],0⟩:=by unfold spec6;rw [if_pos hk1]
  exact⟨_,rfl,AnsR6.of hs ⟨_,_,_,_,_,_,_,_,_,_,_,_,_,_,rfl,((z22.updT hb24 u26).updT hb29 u31),((((Zr.zero (w:=v13) (base:=w.heap.size)).ext e20).updT hb24 u26).updT hb29 u31),((((Zr.zero (w:=v13) (base:=w.heap.size)).ext e20).updT hb24 u26).updT hb29 u31),lzNil6,(lx_ L18 rfl),(Nat.le_trans (by decide:ln 0≤0) (by decide)),(Nat.le_trans (by decide:ln 0≤0) (by decide))⟩,hw6⟩
 · 
  refine cw_region (wl_cmp rfl rfl rfl false (eq_f hk1) (by decide) (mv 1 rfl (ne_ (cw_false rfl (cw_seq ?_)))))
  by_cases hk2:k=2
  · 
   refine cw_region (wl_cmp rfl rfl rfl true (eq_t hk2) (by decide) (mv 1 rfl (ne_ (cw_true rfl (cw_region (pf g1 9 rfl (by kernel_rfl) (wl_load rfl rfl (load_cell (fun _=>by kernel_rfl) (hb4.ext (e8.trans e14)) rfl) (by decide) ?_)))))))
   have L33:ln (gcdL zs)≤1048576:=ln_gcdA hsum
   refine cl (vs:= [.slice A n1 c1]) hw3 (t6_r_GcdAll hw3.size (hl.ext hw3) hn1 hs) rfl (by kernel_rfl) fun xr36 v34 r36 e35 hw4=>?_
   obtain⟨s37,A37,n37,c37,rfl,z37⟩:=r36
   refine pf g12 0 rfl (by kernel_rfl) ?_
   have hb39:=(hb15.ext e35)
   refine so aggInt hb39 [.bool s37,.slice A37 n37 c37,F0,S0,F0,S0,S0,I0] hw4 ge16 rfl rfl rfl rfl fun v38 hb40 u41 hw5=>(wl_nil (eo_block_normal (eo_then (sr (lo aggAns6 hb40 [.bool s37,.slice A37 n37 c37,F0,S0,F0,S0,S0,I0] rfl rfl rfl ?_)))))
   have hb44:=((hb9.ext (e14.trans e35)).updN u41 (by omega))
   refine so aggAns6 hb44 [.bool s37,.slice A37 n37 c37,F0,S0,F0,S0,S0,I0] hw5 ge10 rfl rfl rfl rfl fun v43 hb45 u46 hw6=>(ne_ (cw_ret (eo_ret [.agg #[.bool s37,.slice A37 n37 c37,F0,S0,F0,S0,S0,I0]] rfl ⟨⟨_,rfl,load_agg aggAns6 hb45 [.bool s37,.slice A37 n37 c37,F0,S0,F0,S0,S0,I0] rfl (bq rfl) rfl⟩,trivial⟩ ?_)))
   have hs:spec6 k x y z u zs ys n1 n2=⟨gcdL zs,0,0,0,[],0⟩:=by unfold spec6;rw [if_neg hk1,if_pos hk2]
   exact⟨_,rfl,AnsR6.of hs ⟨_,_,_,_,_,_,_,_,_,_,_,_,_,_,rfl,((z37.updT hb39 u41).updT hb44 u46),((((Zr.zero (w:=v13) (base:=w.heap.size)).ext e35).updT hb39 u41).updT hb44 u46),((((Zr.zero (w:=v13) (base:=w.heap.size)).ext e35).updT hb39 u41).updT hb44 u46),lzNil6,(lx_ L33 rfl),(Nat.le_trans (by decide:ln 0≤0) (by decide)),(Nat.le_trans (by decide:ln 0≤0) (by decide))⟩,hw6⟩
  · 
   refine cw_region (wl_cmp rfl rfl rfl false (eq_f hk2) (by decide) (mv 1 rfl (ne_ (cw_false rfl (cw_seq ?_)))))
   by_cases hk3:k=3
   · 
    refine cw_region (wl_cmp rfl rfl rfl true (eq_t hk3) (by decide) (mv 1 rfl (ne_ (cw_true rfl (cw_region (pf g1 1 rfl (by kernel_rfl) (lo aggInt (hb4.ext (e8.trans e14)) [.bool sa,.slice Aa na ca] rfl rfl rfl (pf g1 3 rfl (by kernel_rfl) (lo aggInt (hb4.ext (e8.trans e14)) [.bool sb,.slice Ab nb cb] rfl rfl rfl ?_)))))))))
    have L48:ln ((Int.lcm x y:Int))≤2097152:=Nat.le_trans (ln_lcmC _ _) (Nat.add_le_add Lx Ly)
    refine cl (vs:= [.agg #[.bool sa,.slice Aa na ca],.agg #[.bool sb,.slice Ab nb cb]]) hw3 (g_ref6_Lcm hw3.size (hx.ext hw3) (lx_ la rfl) (hy.ext hw3) (lx_ lb rfl)) rfl (by kernel_rfl) fun xr51 v49 r51 e50 hw4=>?_
    obtain⟨s52,A52,n52,c52,rfl,z52⟩:=r51
    refine pf g12 0 rfl (by kernel_rfl) ?_
    have hb54:=(hb15.ext e50)
    refine so aggInt hb54 [.bool s52,.slice A52 n52 c52,F0,S0,F0,S0,S0,I0] hw4 ge16 rfl rfl rfl rfl fun v53 hb55 u56 hw5=>(wl_nil (eo_block_normal (eo_then (sr (lo aggAns6 hb55 [.bool s52,.slice A52 n52 c52,F0,S0,F0,S0,S0,I0] rfl rfl rfl ?_)))))
    have hb59:=((hb9.ext (e14.trans e50)).updN u56 (by omega))
    refine so aggAns6 hb59 [.bool s52,.slice A52 n52 c52,F0,S0,F0,S0,S0,I0] hw5 ge10 rfl rfl rfl rfl fun v58 hb60 u61 hw6=>(ne_ (cw_ret (eo_ret [.agg #[.bool s52,.slice A52 n52 c52,F0,S0,F0,S0,S0,I0]] rfl ⟨⟨_,rfl,load_agg aggAns6 hb60 [.bool s52,.slice A52 n52 c52,F0,S0,F0,S0,S0,I0] rfl (bq rfl) rfl⟩,trivial⟩ ?_)))
    have hs:spec6 k x y z u zs ys n1 n2=⟨(Int.lcm x y:Int),0,0,0,[],0⟩:=by unfold spec6;rw [if_neg hk1,if_neg hk2,if_pos hk3]
    exact⟨_,rfl,AnsR6.of hs ⟨_,_,_,_,_,_,_,_,_,_,_,_,_,_,rfl,((z52.updT hb54 u56).updT hb59 u61),((((Zr.zero (w:=v13) (base:=w.heap.size)).ext e50).updT hb54 u56).updT hb59 u61),((((Zr.zero (w:=v13) (base:=w.heap.size)).ext e50).updT hb54 u56).updT hb59 u61),lzNil6,(lx_ L48 rfl),(Nat.le_trans (by decide:ln 0≤0) (by decide)),(Nat.le_trans (by decide:ln 0≤0) (by decide))⟩,hw6⟩
   · 
    refine cw_region (wl_cmp rfl rfl rfl false (eq_f hk3) (by decide) (mv 1 rfl (ne_ (cw_false rfl (cw_seq ?_)))))
    by_cases hk4:k=4
    · 
     refine cw_region (wl_cmp rfl rfl rfl true (eq_t hk4) (by decide) (mv 1 rfl (ne_ (cw_true rfl (cw_region (pf g1 1 rfl (by kernel_rfl) (lo aggInt (hb4.ext (e8.trans e14)) [.bool sa,.slice Aa na ca] rfl rfl rfl (pf g1 3 rfl (by kernel_rfl) (lo aggInt (hb4.ext (e8.trans e14)) [.bool sb,.slice Ab nb cb] rfl rfl rfl ?_)))))))))
     have L63:ln ((Int.gcd x y:Int))≤1048576:=Nat.le_trans (ln_gcd _ _) (Nat.max_le.2 ⟨Lx,Ly⟩)
     have L64:ln (bzu x y)≤1048577:=(bzs x y).ln_u Lx Ly
     have L65:ln (bzv x y)≤1048577:=(bzs x y).ln_v Lx Ly
     refine cl (vs:= [.agg #[.bool sa,.slice Aa na ca],.agg #[.bool sb,.slice Ab nb cb]]) hw3 (t6_r_Ext hw3.size (hx.ext hw3) (lx_ la rfl) (hy.ext hw3) (lx_ lb rfl)) rfl (by kernel_rfl) fun xr68 v66 r68 e67 hw4=>?_
     obtain⟨_,_,_,rfl,⟨s70,A70,n70,c70,rfl,z70⟩,⟨s71,A71,n71,c71,rfl,z71⟩,⟨s72,A72,n72,c72,rfl,z72⟩⟩:=r68
     refine mv 1 rfl (pu (v:= .agg #[.bool s70,.slice A70 n70 c70]) rfl (by kernel_rfl) (pu (v:= .agg #[.bool s71,.slice A71 n71 c71]) rfl (by kernel_rfl) (pu (v:= .agg #[.bool s72,.slice A72 n72 c72]) rfl (by kernel_rfl) (pf g12 0 rfl (by kernel_rfl) ?_))))
     have hb74:=(hb15.ext e67)
     refine so aggInt hb74 [.bool s70,.slice A70 n70 c70,F0,S0,F0,S0,S0,I0] hw4 ge16 rfl rfl rfl rfl fun v73 hb75 u76 hw5=>(pf g12 2 rfl (by kernel_rfl) (so aggInt hb75 [.bool s70,.slice A70 n70 c70,.bool s71,.slice A71 n71 c71,F0,S0,S0,I0] hw5 ge16 rfl rfl rfl rfl fun v78 hb80 u81 hw6=>(pf g12 4 rfl (by kernel_rfl) (so aggInt hb80 [.bool s70,.slice A70 n70 c70,.bool s71,.slice A71 n71 c71,.bool s72,.slice A72 n72 c72,S0,I0] hw6 ge16 rfl rfl rfl rfl fun v83 hb85 u86 hw7=>(wl_nil (eo_block_normal (eo_then (sr (lo aggAns6 hb85 [.bool s70,.slice A70 n70 c70,.bool s71,.slice A71 n71 c71,.bool s72,.slice A72 n72 c72,S0,I0] rfl rfl rfl ?_)))))))))
     have hb89:=((((hb9.ext (e14.trans e67)).updN u76 (by omega)).updN u81 (by omega)).updN u86 (by omega))
     refine so aggAns6 hb89 [.bool s70,.slice A70 n70 c70,.bool s71,.slice A71 n71 c71,.bool s72,.slice A72 n72 c72,S0,I0] hw7 ge10 rfl rfl rfl rfl fun v88 hb90 u91 hw8=>(ne_ (cw_ret (eo_ret [.agg #[.bool s70,.slice A70 n70 c70,.bool s71,.slice A71 n71 c71,.bool s72,.slice A72 n72 c72,S0,I0]] rfl ⟨⟨_,rfl,load_agg aggAns6 hb90 [.bool s70,.slice A70 n70 c70,.bool s71,.slice A71 n71 c71,.bool s72,.slice A72 n72 c72,S0,I0] rfl (bq rfl) rfl⟩,trivial⟩ ?_)))
     have hs:spec6 k x y z u zs ys n1 n2=⟨(Int.gcd x y:Int),bzu x y,bzv x y,0,[],0⟩:=by unfold spec6;rw [if_neg hk1,if_neg hk2,if_neg hk3,if_pos hk4]
     exact⟨_,rfl,AnsR6.of hs ⟨_,_,_,_,_,_,_,_,_,_,_,_,_,_,rfl,((((z70.updT hb74 u76).updT hb75 u81).updT hb80 u86).updT hb89 u91),((((z71.updT hb74 u76).updT hb75 u81).updT hb80 u86).updT hb89 u91),((((z72.updT hb74 u76).updT hb75 u81).updT hb80 u86).updT hb89 u91),lzNil6,(lx_ L63 rfl),(lx_ L64 rfl),(lx_ L65 rfl)⟩,hw8⟩
    · 
     refine cw_region (wl_cmp rfl rfl rfl false (eq_f hk4) (by decide) (mv 1 rfl (ne_ (cw_false rfl (cw_seq ?_)))))
     by_cases hk5:k=5
     · 
      refine cw_region (wl_cmp rfl rfl rfl true (eq_t hk5) (by decide) (mv 1 rfl (ne_ (cw_true rfl (cw_region (pf g1 9 rfl (by kernel_rfl) (wl_load rfl rfl (load_cell (fun _=>by kernel_rfl) (hb4.ext (e8.trans e14)) rfl) (by decide) ?_)))))))
      have q93:g1<v13.heap.size:=(hb4.ext (e8.trans e14)).lt
      have q94:g6<v13.heap.size:=(hb9.ext e14).lt
      have q95:g12<v13.heap.size:=hb15.lt
      have hgl0:w.heap.size≤v13.heap.size:=hw3.size
      have L96:ln (gcdL zs)≤1048576:=ln_gcdA hsum
      refine cl (vs:= [.slice A n1 c1]) hw3 (t6_r_ExtAll hw3.size (Nat.le_refl _) (hl.ext hw3) hn1 hs) rfl (by kernel_rfl) fun xr99 v97 r99 e98 hw4=>?_
      obtain⟨_,_,rfl,⟨s101,A101,n101,c101,rfl,z101⟩,⟨A102,c102,rfl,lz102⟩⟩:=r99
      have blk103:=lz102.block
      refine mv 1 rfl (pu (v:= .agg #[.bool s101,.slice A101 n101 c101]) rfl (by kernel_rfl) (pu (v:= .slice A102 n1 c102) rfl (by kernel_rfl) (pf g12 0 rfl (by kernel_rfl) ?_)))
      have hb105:=(hb15.ext e98)
      refine so aggInt hb105 [.bool s101,.slice A101 n101 c101,F0,S0,F0,S0,S0,I0] hw4 ge16 rfl rfl rfl rfl fun v104 hb106 u107 hw5=>(pf g12 6 rfl (by kernel_rfl) (wl_stored1 rfl rfl rfl (fun _=>by kernel_rfl) rfl hb106 (bq rfl) rfl [.bool s101,.slice A101 n101 c101,F0,S0,F0,S0,.slice A102 n1 c102,I0] rfl fun v109 hb111 u112 hs113=>?_))
      have hw6:=u112.ext hw5 ge16
      refine wl_nil (eo_block_normal (eo_then (sr (lo aggAns6 hb111 [.bool s101,.slice A101 n101 c101,F0,S0,F0,S0,.slice A102 n1 c102,I0] rfl rfl rfl ?_))))
      have hb115:=(((hb9.ext (e14.trans e98)).updN u107 (by omega)).updN u112 (by omega))
      refine so aggAns6 hb115 [.bool s101,.slice A101 n101 c101,F0,S0,F0,S0,.slice A102 n1 c102,I0] hw6 ge10 rfl rfl rfl rfl fun v114 hb116 u117 hw7=>(ne_ (cw_ret (eo_ret [.agg #[.bool s101,.slice A101 n101 c101,F0,S0,F0,S0,.slice A102 n1 c102,I0]] rfl ⟨⟨_,rfl,load_agg aggAns6 hb116 [.bool s101,.slice A101 n101 c101,F0,S0,F0,S0,.slice A102 n1 c102,I0] rfl (bq rfl) rfl⟩,trivial⟩ ?_)))
      have hs:spec6 k x y z u zs ys n1 n2=⟨gcdL zs,0,0,n1,exRv zs.reverse,0⟩:=by unfold spec6;rw [if_neg hk1,if_neg hk2,if_neg hk3,if_neg hk4,if_pos hk5]
      exact⟨_,rfl,AnsR6.of hs ⟨_,_,_,_,_,_,_,_,_,_,_,_,_,_,rfl,(((z101.updT hb105 u107).updT hb106 u112).updT hb115 u117),(((((Zr.zero (w:=v13) (base:=w.heap.size)).ext e98).updT hb105 u107).updT hb106 u112).updT hb115 u117),(((((Zr.zero (w:=v13) (base:=w.heap.size)).ext e98).updT hb105 u107).updT hb106 u112).updT hb115 u117),(((((lz102.updT hb105 u107 (fun p hp=>by have:=blk103 p hp;omega)).updT hb106 u112 (fun p hp=>by have:=blk103 p hp;omega)).updT hb115 u117 (fun p hp=>by have:=blk103 p hp;omega))).mono (Nat.le_refl _) (Nat.le_refl _) hgl0),(lx_ L96 rfl),(Nat.le_trans (by decide:ln 0≤0) (by decide)),(Nat.le_trans (by decide:ln 0≤0) (by decide))⟩,hw7⟩
     · 
      refine cw_region (wl_cmp rfl rfl rfl false (eq_f hk5) (by decide) (mv 1 rfl (ne_ (cw_false rfl (cw_seq ?_)))))
      by_cases hk6:k=6
      · 
       refine cw_region (wl_cmp rfl rfl rfl true (eq_t hk6) (by decide) (mv 1 rfl (ne_ (cw_true rfl (cw_region (pf g1 1 rfl (by kernel_rfl) (lo aggInt (hb4.ext (e8.trans e14)) [.bool sa,.slice Aa na ca] rfl rfl rfl (pf g1 3 rfl (by kernel_rfl) (lo aggInt (hb4.ext (e8.trans e14)) [.bool sb,.slice Ab nb cb] rfl rfl rfl ?_)))))))))
       have L119:ln (ivV x y)≤1048577:=ln_ivV Lx Ly
       refine cl (vs:= [.agg #[.bool sa,.slice Aa na ca],.agg #[.bool sb,.slice Ab nb cb]]) hw3 (t6_r_Inverse hw3.size (hx.ext hw3) (lx_ la rfl) (hy.ext hw3) (lx_ lb rfl)) rfl (by kernel_rfl) fun xr122 v120 r122 e121 hw4=>?_
       obtain⟨_,_,rfl,⟨s124,A124,n124,c124,rfl,z124⟩,rfl⟩:=r122
       refine mv 1 rfl (pu (v:= .agg #[.bool s124,.slice A124 n124 c124]) rfl (by kernel_rfl) (pu (v:= .int .i64 (ivE x y)) rfl (by kernel_rfl) (pf g12 0 rfl (by kernel_rfl) ?_)))
       have hb126:=(hb15.ext e121)
       refine so aggInt hb126 [.bool s124,.slice A124 n124 c124,F0,S0,F0,S0,S0,I0] hw4 ge16 rfl rfl rfl rfl fun v125 hb127 u128 hw5=>(pf g12 7 rfl (by kernel_rfl) (wl_stored1 rfl rfl rfl (fun _=>by kernel_rfl) rfl hb127 (bq rfl) rfl [.bool s124,.slice A124 n124 c124,F0,S0,F0,S0,S0,.int .i64 (ivE x y)] rfl fun v130 hb132 u133 hs134=>?_))
       have hw6:=u133.ext hw5 ge16
       refine wl_nil (eo_block_normal (eo_then (sr (lo aggAns6 hb132 [.bool s124,.slice A124 n124 c124,F0,S0,F0,S0,S0,.int .i64 (ivE x y)] rfl rfl rfl ?_))))
       have hb136:=(((hb9.ext (e14.trans e121)).updN u128 (by omega)).updN u133 (by omega))
       refine so aggAns6 hb136 [.bool s124,.slice A124 n124 c124,F0,S0,F0,S0,S0,.int .i64 (ivE x y)] hw6 ge10 rfl rfl rfl rfl fun v135 hb137 u138 hw7=>(ne_ (cw_ret (eo_ret [.agg #[.bool s124,.slice A124 n124 c124,F0,S0,F0,S0,S0,.int .i64 (ivE x y)]] rfl ⟨⟨_,rfl,load_agg aggAns6 hb137 [.bool s124,.slice A124 n124 c124,F0,S0,F0,S0,S0,.int .i64 (ivE x y)] rfl (bq rfl) rfl⟩,trivial⟩ ?_)))
       have hs:spec6 k x y z u zs ys n1 n2=⟨ivV x y,0,0,0,[],ivE x y⟩:=by unfold spec6;rw [if_neg hk1,if_neg hk2,if_neg hk3,if_neg hk4,if_neg hk5,if_pos hk6]
       exact⟨_,rfl,AnsR6.of hs ⟨_,_,_,_,_,_,_,_,_,_,_,_,_,_,rfl,(((z124.updT hb126 u128).updT hb127 u133).updT hb136 u138),(((((Zr.zero (w:=v13) (base:=w.heap.size)).ext e121).updT hb126 u128).updT hb127 u133).updT hb136 u138),(((((Zr.zero (w:=v13) (base:=w.heap.size)).ext e121).updT hb126 u128).updT hb127 u133).updT hb136 u138),lzNil6,(lx_ L119 rfl),(Nat.le_trans (by decide:ln 0≤0) (by decide)),(Nat.le_trans (by decide:ln 0≤0) (by decide))⟩,hw7⟩
      · 
       refine cw_region (wl_cmp rfl rfl rfl false (eq_f hk6) (by decide) (mv 1 rfl (ne_ (cw_false rfl (cw_seq ?_)))))
       by_cases hk7:k=7
       · 
        refine cw_region (wl_cmp rfl rfl rfl true (eq_t hk7) (by decide) (mv 1 rfl (ne_ (cw_true rfl (cw_region (pf g1 1 rfl (by kernel_rfl) (lo aggInt (hb4.ext (e8.trans e14)) [.bool sa,.slice Aa na ca] rfl rfl rfl (pf g1 3 rfl (by kernel_rfl) (lo aggInt (hb4.ext (e8.trans e14)) [.bool sb,.slice Ab nb cb] rfl rfl rfl (pf g1 5 rfl (by kernel_rfl) (lo aggInt (hb4.ext (e8.trans e14)) [.bool sd,.slice Ad nd cd] rfl rfl rfl ?_)))))))))))
        have L140:ln (pmV x y z)≤1048576:=ln_pmV Lz
        refine cl (vs:= [.agg #[.bool sa,.slice Aa na ca],.agg #[.bool sb,.slice Ab nb cb],.agg #[.bool sd,.slice Ad nd cd]]) hw3 (t6_r_PowMod hw3.size (hx.ext hw3) (lx_ la rfl) (hy.ext hw3) (lx_ lb rfl) (hz.ext hw3) (lx_ ld rfl)) rfl (by kernel_rfl) fun xr143 v141 r143 e142 hw4=>?_
        obtain⟨_,_,rfl,⟨s145,A145,n145,c145,rfl,z145⟩,rfl⟩:=r143
        refine mv 1 rfl (pu (v:= .agg #[.bool s145,.slice A145 n145 c145]) rfl (by kernel_rfl) (pu (v:= .int .i64 (pmE y z)) rfl (by kernel_rfl) (pf g12 0 rfl (by kernel_rfl) ?_)))
        have hb147:=(hb15.ext e142)
        refine so aggInt hb147 [.bool s145,.slice A145 n145 c145,F0,S0,F0,S0,S0,I0] hw4 ge16 rfl rfl rfl rfl fun v146 hb148 u149 hw5=>(pf g12 7 rfl (by kernel_rfl) (wl_stored1 rfl rfl rfl (fun _=>by kernel_rfl) rfl hb148 (bq rfl) rfl [.bool s145,.slice A145 n145 c145,F0,S0,F0,S0,S0,.int .i64 (pmE y z)] rfl fun v151 hb153 u154 hs155=>?_))
        have hw6:=u154.ext hw5 ge16
        refine wl_nil (eo_block_normal (eo_then (sr (lo aggAns6 hb153 [.bool s145,.slice A145 n145 c145,F0,S0,F0,S0,S0,.int .i64 (pmE y z)] rfl rfl rfl ?_))))
        have hb157:=(((hb9.ext (e14.trans e142)).updN u149 (by omega)).updN u154 (by omega))
        refine so aggAns6 hb157 [.bool s145,.slice A145 n145 c145,F0,S0,F0,S0,S0,.int .i64 (pmE y z)] hw6 ge10 rfl rfl rfl rfl fun v156 hb158 u159 hw7=>(ne_ (cw_ret (eo_ret [.agg #[.bool s145,.slice A145 n145 c145,F0,S0,F0,S0,S0,.int .i64 (pmE y z)]] rfl ⟨⟨_,rfl,load_agg aggAns6 hb158 [.bool s145,.slice A145 n145 c145,F0,S0,F0,S0,S0,.int .i64 (pmE y z)] rfl (bq rfl) rfl⟩,trivial⟩ ?_)))
        have hs:spec6 k x y z u zs ys n1 n2=⟨pmV x y z,0,0,0,[],pmE y z⟩:=by unfold spec6;rw [if_neg hk1,if_neg hk2,if_neg hk3,if_neg hk4,if_neg hk5,if_neg hk6,if_pos hk7]
        exact⟨_,rfl,AnsR6.of hs ⟨_,_,_,_,_,_,_,_,_,_,_,_,_,_,rfl,(((z145.updT hb147 u149).updT hb148 u154).updT hb157 u159),(((((Zr.zero (w:=v13) (base:=w.heap.size)).ext e142).updT hb147 u149).updT hb148 u154).updT hb157 u159),(((((Zr.zero (w:=v13) (base:=w.heap.size)).ext e142).updT hb147 u149).updT hb148 u154).updT hb157 u159),lzNil6,(lx_ L140 rfl),(Nat.le_trans (by decide:ln 0≤0) (by decide)),(Nat.le_trans (by decide:ln 0≤0) (by decide))⟩,hw7⟩
       · 
        refine cw_region (wl_cmp rfl rfl rfl false (eq_f hk7) (by decide) (mv 1 rfl (ne_ (cw_false rfl (cw_seq ?_)))))
        by_cases hk8:k=8
        · 
         refine cw_region (wl_cmp rfl rfl rfl true (eq_t hk8) (by decide) (mv 1 rfl (ne_ (cw_true rfl (cw_region (pf g1 1 rfl (by kernel_rfl) (lo aggInt (hb4.ext (e8.trans e14)) [.bool sa,.slice Aa na ca] rfl rfl rfl (pf g1 3 rfl (by kernel_rfl) (lo aggInt (hb4.ext (e8.trans e14)) [.bool sb,.slice Ab nb cb] rfl rfl rfl (pf g1 5 rfl (by kernel_rfl) (lo aggInt (hb4.ext (e8.trans e14)) [.bool sd,.slice Ad nd cd] rfl rfl rfl (pf g1 7 rfl (by kernel_rfl) (lo aggInt (hb4.ext (e8.trans e14)) [.bool se,.slice Ae ne ce] rfl rfl rfl ?_)))))))))))))
         have L161:ln (crV x y z u)≤2097152:=ln_crV Ly Lu
         have L162:ln (crM x y z u)≤2097152:=ln_crM Ly Lu
         refine cl (vs:= [.agg #[.bool sa,.slice Aa na ca],.agg #[.bool sb,.slice Ab nb cb],.agg #[.bool sd,.slice Ad nd cd],.agg #[.bool se,.slice Ae ne ce]]) hw3 (t6_r_Crt hw3.size (hx.ext hw3) (lx_ la rfl) (hy.ext hw3) (lx_ lb rfl) (hz.ext hw3) (lx_ ld rfl) (hu.ext hw3) (lx_ le rfl)) rfl (by kernel_rfl) fun xr165 v163 r165 e164 hw4=>?_
         obtain⟨_,_,_,rfl,⟨s167,A167,n167,c167,rfl,z167⟩,⟨s168,A168,n168,c168,rfl,z168⟩,rfl⟩:=r165
         refine mv 1 rfl (pu (v:= .agg #[.bool s167,.slice A167 n167 c167]) rfl (by kernel_rfl) (pu (v:= .agg #[.bool s168,.slice A168 n168 c168]) rfl (by kernel_rfl) (pu (v:= .int .i64 (crE x y z u)) rfl (by kernel_rfl) (pf g12 0 rfl (by kernel_rfl) ?_))))
         have hb170:=(hb15.ext e164)
         refine so aggInt hb170 [.bool s167,.slice A167 n167 c167,F0,S0,F0,S0,S0,I0] hw4 ge16 rfl rfl rfl rfl fun v169 hb171 u172 hw5=>(pf g12 2 rfl (by kernel_rfl) (so aggInt hb171 [.bool s167,.slice A167 n167 c167,.bool s168,.slice A168 n168 c168,F0,S0,S0,I0] hw5 ge16 rfl rfl rfl rfl fun v174 hb176 u177 hw6=>(pf g12 7 rfl (by kernel_rfl) (wl_stored1 rfl rfl rfl (fun _=>by kernel_rfl) rfl hb176 (bq rfl) rfl [.bool s167,.slice A167 n167 c167,.bool s168,.slice A168 n168 c168,F0,S0,S0,.int .i64 (crE x y z u)] rfl fun v179 hb181 u182 hs183=>?_))))
         have hw7:=u182.ext hw6 ge16
         refine wl_nil (eo_block_normal (eo_then (sr (lo aggAns6 hb181 [.bool s167,.slice A167 n167 c167,.bool s168,.slice A168 n168 c168,F0,S0,S0,.int .i64 (crE x y z u)] rfl rfl rfl ?_))))
         have hb185:=((((hb9.ext (e14.trans e164)).updN u172 (by omega)).updN u177 (by omega)).updN u182 (by omega))
         refine so aggAns6 hb185 [.bool s167,.slice A167 n167 c167,.bool s168,.slice A168 n168 c168,F0,S0,S0,.int .i64 (crE x y z u)] hw7 ge10 rfl rfl rfl rfl fun v184 hb186 u187 hw8=>(ne_ (cw_ret (eo_ret [.agg #[.bool s167,.slice A167 n167 c167,.bool s168,.slice A168 n168 c168,F0,S0,S0,.int .i64 (crE x y z u)]] rfl ⟨⟨_,rfl,load_agg aggAns6 hb186 [.bool s167,.slice A167 n167 c167,.bool s168,.slice A168 n168 c168,F0,S0,S0,.int .i64 (crE x y z u)] rfl (bq rfl) rfl⟩,trivial⟩ ?_)))
         have hs:spec6 k x y z u zs ys n1 n2=⟨crV x y z u,crM x y z u,0,0,[],crE x y z u⟩:=by unfold spec6;rw [if_neg hk1,if_neg hk2,if_neg hk3,if_neg hk4,if_neg hk5,if_neg hk6,if_neg hk7,if_pos hk8]
         exact⟨_,rfl,AnsR6.of hs ⟨_,_,_,_,_,_,_,_,_,_,_,_,_,_,rfl,((((z167.updT hb170 u172).updT hb171 u177).updT hb176 u182).updT hb185 u187),((((z168.updT hb170 u172).updT hb171 u177).updT hb176 u182).updT hb185 u187),((((((Zr.zero (w:=v13) (base:=w.heap.size)).ext e164).updT hb170 u172).updT hb171 u177).updT hb176 u182).updT hb185 u187),lzNil6,(lx_ L161 rfl),(lx_ L162 rfl),(Nat.le_trans (by decide:ln 0≤0) (by decide))⟩,hw8⟩
        · 
         refine cw_region (wl_cmp rfl rfl rfl false (eq_f hk8) (by decide) (mv 1 rfl (ne_ (cw_false rfl (cw_seq ?_)))))
         by_cases hk9:k=9
         · 
          refine cw_region (wl_cmp rfl rfl rfl true (eq_t hk9) (by decide) (mv 1 rfl (ne_ (cw_true rfl (cw_region (pf g1 9 rfl (by kernel_rfl) (wl_load rfl rfl (load_cell (fun _=>by kernel_rfl) (hb4.ext (e8.trans e14)) rfl) (by decide) (pf g1 10 rfl (by kernel_rfl) (wl_load rfl rfl (load_cell (fun _=>by kernel_rfl) (hb4.ext (e8.trans e14)) rfl) (by decide) ?_)))))))))
          have L189:ln (caV zs ys n1 n2)≤1048577:=ln_caV hl2.len hsum2
          have L190:ln (caM zs ys n1 n2)≤1048577:=ln_caM hsum2
          refine cl (vs:= [.slice A n1 c1,.slice C n2 c2]) hw3 (t6_r_CrtAll hw3.size (hl.ext hw3) (hl2.ext hw3) hn1 hn2 hs hs2) rfl (by kernel_rfl) fun xr193 v191 r193 e192 hw4=>?_
          obtain⟨_,_,_,rfl,⟨s195,A195,n195,c195,rfl,z195⟩,⟨s196,A196,n196,c196,rfl,z196⟩,rfl⟩:=r193
          refine mv 1 rfl (pu (v:= .agg #[.bool s195,.slice A195 n195 c195]) rfl (by kernel_rfl) (pu (v:= .agg #[.bool s196,.slice A196 n196 c196]) rfl (by kernel_rfl) (pu (v:= .int .i64 (caE zs ys n1 n2)) rfl (by kernel_rfl) (pf g12 0 rfl (by kernel_rfl) ?_))))
          have hb198:=(hb15.ext e192)
          refine so aggInt hb198 [.bool s195,.slice A195 n195 c195,F0,S0,F0,S0,S0,I0] hw4 ge16 rfl rfl rfl rfl fun v197 hb199 u200 hw5=>(pf g12 2 rfl (by kernel_rfl) (so aggInt hb199 [.bool s195,.slice A195 n195 c195,.bool s196,.slice A196 n196 c196,F0,S0,S0,I0] hw5 ge16 rfl rfl rfl rfl fun v202 hb204 u205 hw6=>(pf g12 7 rfl (by kernel_rfl) (wl_stored1 rfl rfl rfl (fun _=>by kernel_rfl) rfl hb204 (bq rfl) rfl [.bool s195,.slice A195 n195 c195,.bool s196,.slice A196 n196 c196,F0,S0,S0,.int .i64 (caE zs ys n1 n2)] rfl fun v207 hb209 u210 hs211=>?_))))
          have hw7:=u210.ext hw6 ge16
          refine wl_nil (eo_block_normal (eo_then (sr (lo aggAns6 hb209 [.bool s195,.slice A195 n195 c195,.bool s196,.slice A196 n196 c196,F0,S0,S0,.int .i64 (caE zs ys n1 n2)] rfl rfl rfl ?_))))
          have hb213:=((((hb9.ext (e14.trans e192)).updN u200 (by omega)).updN u205 (by omega)).updN u210 (by omega))
          refine so aggAns6 hb213 [.bool s195,.slice A195 n195 c195,.bool s196,.slice A196 n196 c196,F0,S0,S0,.int .i64 (caE zs ys n1 n2)] hw7 ge10 rfl rfl rfl rfl fun v212 hb214 u215 hw8=>(ne_ (cw_ret (eo_ret [.agg #[.bool s195,.slice A195 n195 c195,.bool s196,.slice A196 n196 c196,F0,S0,S0,.int .i64 (caE zs ys n1 n2)]] rfl ⟨⟨_,rfl,load_agg aggAns6 hb214 [.bool s195,.slice A195 n195 c195,.bool s196,.slice A196 n196 c196,F0,S0,S0,.int .i64 (caE zs ys n1 n2)] rfl (bq rfl) rfl⟩,trivial⟩ ?_)))
          have hs:spec6 k x y z u zs ys n1 n2=⟨caV zs ys n1 n2,caM zs ys n1 n2,0,0,[],caE zs ys n1 n2⟩:=by unfold spec6;rw [if_neg hk1,if_neg hk2,if_neg hk3,if_neg hk4,if_neg hk5,if_neg hk6,if_neg hk7,if_neg hk8,if_pos hk9]
          exact⟨_,rfl,AnsR6.of hs ⟨_,_,_,_,_,_,_,_,_,_,_,_,_,_,rfl,((((z195.updT hb198 u200).updT hb199 u205).updT hb204 u210).updT hb213 u215),((((z196.updT hb198 u200).updT hb199 u205).updT hb204 u210).updT hb213 u215),((((((Zr.zero (w:=v13) (base:=w.heap.size)).ext e192).updT hb198 u200).updT hb199 u205).updT hb204 u210).updT hb213 u215),lzNil6,(lx_ L189 rfl),(lx_ L190 rfl),(Nat.le_trans (by decide:ln 0≤0) (by decide))⟩,hw8⟩
         · 
          refine cw_region (wl_cmp rfl rfl rfl false (eq_f hk9) (by decide) (mv 1 rfl (ne_ (cw_false rfl (cw_skip (eo_block_normal (eo_then (sr (lo aggAns6 hb15 [F0,S0,F0,S0,F0,S0,S0,I0] rfl rfl rfl ?_)))))))))
          have hb218:=(hb9.ext e14)
          refine so aggAns6 hb218 [F0,S0,F0,S0,F0,S0,S0,I0] hw3 ge10 rfl rfl rfl rfl fun v217 hb219 u220 hw4=>(ne_ (cw_ret (eo_ret [.agg #[F0,S0,F0,S0,F0,S0,S0,I0]] rfl ⟨⟨_,rfl,load_agg aggAns6 hb219 [F0,S0,F0,S0,F0,S0,S0,I0] rfl (bq rfl) rfl⟩,trivial⟩ ?_)))
          have hs:spec6 k x y z u zs ys n1 n2=⟨0,0,0,0,[],0⟩:=by unfold spec6;rw [if_neg hk1,if_neg hk2,if_neg hk3,if_neg hk4,if_neg hk5,if_neg hk6,if_neg hk7,if_neg hk8,if_neg hk9]
          exact⟨_,rfl,AnsR6.of hs ⟨_,_,_,_,_,_,_,_,_,_,_,_,_,_,rfl,((Zr.zero (w:=v13) (base:=w.heap.size)).updT hb218 u220),((Zr.zero (w:=v13) (base:=w.heap.size)).updT hb218 u220),((Zr.zero (w:=v13) (base:=w.heap.size)).updT hb218 u220),lzNil6,(Nat.le_trans (by decide:ln 0≤0) (by decide)),(Nat.le_trans (by decide:ln 0≤0) (by decide)),(Nat.le_trans (by decide:ln 0≤0) (by decide))⟩,hw4⟩
theorem g_wants6 {w:World}{b:Nat}(hb:b≤w.heap.size){k x y z u:Int}{zs ys:List Int}{n1 n2:Nat}{v:Value}(h:Op6 w k x y z u zs ys n1 n2 v):
  Calls Tryz.prog 12 #[v] w (Gv w (AnsR6 b (spec6 k x y z u zs ys n1 n2))):=by
 obtain⟨sa,Aa,na,ca,sb,Ab,nb,cb,sd,Ad,nd,cd,se,Ae,ne,ce,A,c1,ms,C,c2,ms2,rfl,h1,h2,h3,h4,h5,h6,h7,h8,h9,h10,h11,h12,h13,h14⟩:=h
 exact (g_wants6I h1 h2 h3 h4 h5 h6 h7 h8 h9 h10 h11 h12 h13 h14).mono (Gv.imp (AnsR6.imp hb))
end Go.Proofs.YtgilhcdglaneiaaGreat

namespace Go.Proofs.YtgilhcdglaneiaaGreat
open Go.ChangeShapes Go.WideShapes Go.ChangeAt Go.RowKit
set_option maxRecDepth 20000 in
theorem open_zlc6 {H:Type}{enc:TypeId×Value→H}{W:World}{v:Value}{d:DataW H}{p:List MemPlace}{fuel:Nat}
  (hf:DataW.trod enc Tryz.prog W 0 (fun _=>true) true fuel 28 [v]=some (d,p)):
  ∃A n cap zs ms,v= .slice A n cap∧Zl W A n cap zs ms∧n+ms.sum≤Rows.uptoBulk d:=by
 rcases Go.Deep.open_slice Tryz.underlying28 hf with⟨hcs,hx⟩ | ⟨a,n,cap,m,k,D,Pl,hcs,_,hl,hm,hmm,hx,hi⟩
 ·obtain rfl:=List.singleton_inj.1 hcs
  exact⟨none,0,0,[],[],rfl,⟨rfl,rfl,Nat.le_refl _,by decide,fun i hi=>by omega⟩,by simp⟩
 ·obtain rfl:=List.singleton_inj.1 hcs
  simp only [if_true] at hmm
  have hmm':=hmm.symm
  subst hmm'
  simp only [Prod.mk.injEq] at hx
  obtain⟨rfl,rfl⟩:=hx
  rw [cells_int] at hi
  have hel:∀i,i<cap→∃(q:Bool×Option Addr×Nat×Nat×Int),W.cell? (a.add (i*2))=some (.bool q.1)∧W.cell? (a.add (i*2+1))=some (.slice q.2.1 q.2.2.1 q.2.2.2.1)∧Zi W q.1 q.2.1 q.2.2.1 q.2.2.2.1 q.2.2.2.2∧q.2.2.1+1≤Rows.uptoBulk (D i):=by
   intro i him
   obtain⟨cs',hc,ht'⟩:=hi i him
   obtain⟨_,hcl,hat⟩:=World.cells?_some hc
   obtain⟨c0,c1,rfl⟩:=elem_len hcl
   have ht2:DataW.trod enc Tryz.prog W 0 (fun _=>true) true k 27 [c0,c1]=some (D i,Pl i):=ht'
   obtain⟨s,B,nb,c,z,rfl,rfl,hz,hb,rx⟩:=open_zcells ht2
   refine⟨(s,B,nb,c,z),?_,?_,hz,hb⟩
   ·have:=hat 0 (by simp)
    simpa [Go.Deep.add_add] using this
   ·have:=hat 1 (by simp)
    simpa [Go.Deep.add_add] using this
  obtain⟨Q,hQ⟩:=Go.Deep.choose_lt hel
  refine⟨some a,n,cap,(List.range n).map (fun i=>(Q i).2.2.2.2),(List.range n).map (fun i=>(Q i).2.2.1),rfl,⟨by simp,by simp,hl,hm,fun i hin=>?_⟩,?_⟩
  ·obtain⟨h1,h2,h3,_⟩:=hQ i (by omega)
   have e1:((List.range n).map (fun i=>(Q i).2.2.1)).getD i 0=(Q i).2.2.1:=by simp [List.getD_eq_getElem?_getD,hin]
   have e2:((List.range n).map (fun i=>(Q i).2.2.2.2)).getD i 0=(Q i).2.2.2.2:=by simp [List.getD_eq_getElem?_getD,hin]
   rw [e1,e2]
   exact⟨a,_,_,_,rfl,h1,h2,h3⟩
  ·have:=sum_map_le D (fun i=>(Q i).2.2.1) n (fun i hin=>(hQ i (by omega)).2.2.2)
   simp only [Rows.uptoBulk]
   omega
theorem eleven {α:Type}{l:List α}(h:l.length=11):∃a b c d e f g i j k m,l= [a,b,c,d,e,f,g,i,j,k,m]:=by
 match l,h with
 | [a,b,c,d,e,f,g,i,j,k,m],_=>exact⟨a,b,c,d,e,f,g,i,j,k,m,rfl⟩
theorem sevens {α:Type}{l:List α}(h:l.length=7):∃a b c d e f g,l= [a,b,c,d,e,f,g]:=by
 match l,h with
 | [a,b,c,d,e,f,g],_=>exact⟨a,b,c,d,e,f,g,rfl⟩
theorem fields_op6:∃f0 f1 f2 f3 f4 f5 f6:Field,Tryz.prog.underlying 30=some (.struct #[f0,f1,f2,f3,f4,f5,f6])∧(f0.type=3∧f0.offset=0)∧(f1.type=27∧f1.offset=1)∧(f2.type=27∧f2.offset=3)∧(f3.type=27∧f3.offset=5)∧(f4.type=27∧f4.offset=7)∧(f5.type=28∧f5.offset=9)∧(f6.type=28∧f6.offset=10):=
 ⟨_,_,_,_,_,_,_,Tryz.underlying30,⟨rfl,rfl⟩,⟨rfl,rfl⟩,⟨rfl,rfl⟩,⟨rfl,rfl⟩,⟨rfl,rfl⟩,⟨rfl,rfl⟩,⟨rfl,rfl⟩⟩
theorem cells_op6:Tryz.prog.cellsOf 30=11:=by kernel_rfl
theorem cells_i6:Tryz.prog.cellsOf 3=1:=by kernel_rfl
theorem cells_z6:Tryz.prog.cellsOf 28=1:=by kernel_rfl
def Op6c (w:World) (us:List Value):Prop:=∃k x y z u zs ys n1 n2,Op6 w k x y z u zs ys n1 n2 (.agg us.toArray)
set_option maxRecDepth 20000 in
set_option maxHeartbeats 1000000 in
theorem open_op6c {H:Type}{enc:TypeId×Value→H}{W:World}{cs:List Value}{x:DataW H×List MemPlace}{fuel:Nat}
  (h:DataW.trod enc Tryz.prog W 0 (fun _=>true) true fuel 30 cs=some x) (hle:Rows.uptoBulk x.1≤1048576):Op6c W cs:=by
 obtain⟨f0,f1,f2,f3,f4,f5,f6,hu,⟨t0,o0⟩,⟨t1,o1⟩,⟨t2,o2⟩,⟨t3,o3⟩,⟨t4,o4⟩,⟨t5,o5⟩,⟨t6,o6⟩⟩:=fields_op6
 obtain⟨ys,n,_,rfl,hcl,hyl,hf⟩:=DataW.trod_struct hu h
 rw [cells_op6] at hcl
 obtain⟨c0,c1,c2,c3,c4,c5,c6,c7,c8,c9,c10,rfl⟩:=eleven hcl
 obtain⟨y0,y1,y2,y3,y4,y5,y6,rfl⟩:=sevens (show ys.length=7 from hyl)
 have g0:=hf 0 f0 rfl
 have g1:=hf 1 f1 rfl
 have g2:=hf 2 f2 rfl
 have g3:=hf 3 f3 rfl
 have g4:=hf 4 f4 rfl
 have g5:=hf 5 f5 rfl
 have g6:=hf 6 f6 rfl
 rw [t0,o0,cells_i6] at g0
 rw [t1,o1,cells_int] at g1
 rw [t2,o2,cells_int] at g2
 rw [t3,o3,cells_int] at g3
 rw [t4,o4,cells_int] at g4
 rw [t5,o5,cells_z6] at g5
 rw [t6,o6,cells_z6] at g6
 obtain⟨k,hk,_,_⟩:=DataW.trod_int Tryz.underlying3 (show DataW.trod enc Tryz.prog W 0 (fun _=>true) true n 3 [c0]=some y0 from g0)
 obtain⟨sa,Aa,na,ca,x,rfl,rfl,hx,hbx,_⟩:=open_zcells (show DataW.trod enc Tryz.prog W 0 (fun _=>true) true n 27 [c1,c2]=some y1 from g1)
 obtain⟨sb,Ab,nb,cb,y,rfl,rfl,hy,hby,_⟩:=open_zcells (show DataW.trod enc Tryz.prog W 0 (fun _=>true) true n 27 [c3,c4]=some y2 from g2)
 obtain⟨sd,Ad,nd,cd,z,rfl,rfl,hz,hbz,_⟩:=open_zcells (show DataW.trod enc Tryz.prog W 0 (fun _=>true) true n 27 [c5,c6]=some y3 from g3)
 obtain⟨se,Ae,ne,ce,u,rfl,rfl,hu,hbu,_⟩:=open_zcells (show DataW.trod enc Tryz.prog W 0 (fun _=>true) true n 27 [c7,c8]=some y4 from g4)
 obtain⟨A,n1,c1',zs,ms,rfl,hl,hbl⟩:=open_zlc6 (d:=y5.1) (p:=y5.2) (show DataW.trod enc Tryz.prog W 0 (fun _=>true) true n 28 [c9]=some y5 from g5)
 obtain⟨C,n2,c2',zs2,ms2,rfl,hl2,hbl2⟩:=open_zlc6 (d:=y6.1) (p:=y6.2) (show DataW.trod enc Tryz.prog W 0 (fun _=>true) true n 28 [c10]=some y6 from g6)
 obtain rfl:=List.singleton_inj.1 hk
 simp only [Rows.uptoBulk,List.map_cons,Rows.uptoBulkAll] at hle
 exact⟨k,x,y,z,u,zs,zs2,n1,n2,⟨_,_,_,_,_,_,_,_,_,_,_,_,_,_,_,_,_,_,_,_,_,_,rfl,hx,by omega,hy,by omega,hz,by omega,hu,by omega,hl,by omega,hl2,by omega,by omega,by omega⟩⟩
set_option maxRecDepth 20000 in
theorem open_ops6 {H:Type}{enc:TypeId×Value→H}{W:World}{base:Nat}{v:Value}{d:DataW H}{pl:List MemPlace}
  (hval:Value.okWide Tryz.prog W .any base 22 v) (h:DataW.Trod enc Tryz.prog W 0 (fun _=>true) true 22 v d pl):
  ∃A n cap,v= .slice A n cap∧(Rows.uptoBulk d≤1048576→Al 11 Op6c W A n)∧n≤Rows.uptoBulk d:=by
 obtain⟨A,n,cap,h1,h2,h3⟩:=open_al (ok:=fun W cs=>Rows.uptoBulk d≤1048576→Op6c W cs) Tryz.underlying22 cells_op6 (fun _ _ _ hx hle hd=>open_op6c hx (Nat.le_trans hle hd)) hval h
 refine⟨A,n,cap,h1,fun hd i hi=>?_,h3⟩
 obtain⟨p,us,k1,k2,k3,k4⟩:=h2 i hi
 exact⟨p,us,k1,k2,k3,k4 hd⟩
theorem Al.at11 {w:World}{A:Option Addr}{n i:Nat}(h:Al 11 Op6c w A n) (hi:i<n):
  ∃(p:Addr) (v:Value) (k x y z u:Int) (zs ys:List Int) (n1 n2:Nat),A.map (·.add (i*11))=some p∧(∀w',Ext w w'→(loadVar 30 p).run Tryz.prog w'= .ok v w')∧Op6 w k x y z u zs ys n1 n2 v:=by
 obtain⟨p,us,h1,h2,h3,k,x,y,z,u,zs,ys,n1,n2,ho⟩:=h i hi
 exact⟨p,.agg us.toArray,k,x,y,z,u,zs,ys,n1,n2,h1,fun w' e=>load_at aggOp6 us h2 (fun j hj=>e.cell (h3 j (by omega))),ho⟩
end Go.Proofs.YtgilhcdglaneiaaGreat

namespace Go.Proofs.YtgilhcdglaneiaaGreat
open Go.RowKit
set_option maxHeartbeats 8000000 in
set_option maxRecDepth 20000 in
theorem g_same6I {w:World}{t:Ans6}{b1 b2:Nat}{sap:Bool}{Aap:Option Addr}{nap cap:Nat}{sbp:Bool}{Abp:Option Addr}{nbp cbp:Nat}{sdp:Bool}{Adp:Option Addr}{ndp cdp:Nat}{Bp:Option Addr}{dp:Nat}{saq:Bool}{Aaq:Option Addr}{naq caq:Nat}{sbq:Bool}{Abq:Option Addr}{nbq cbq:Nat}{sdq:Bool}{Adq:Option Addr}{ndq cdq:Nat}{Bq:Option Addr}{dq:Nat}(zap:Zr w b1 sap Aap nap cap t.X) (zbp:Zr w b1 sbp Abp nbp cbp t.Y) (zdp:Zr w b1 sdp Adp ndp cdp t.Z) (lzp:Lz none 8388608 b1 w b1 Bp t.n dp t.L) (hbp:b1≤w.heap.size) (zaq:Zr w b2 saq Aaq naq caq t.X) (zbq:Zr w b2 sbq Abq nbq cbq t.Y) (zdq:Zr w b2 sdq Adq ndq cdq t.Z) (lzq:Lz none 8388608 b2 w b2 Bq t.n dq t.L) (hbq:b2≤w.heap.size) (lX:ln t.X≤1099511627776) (lY:ln t.Y≤1099511627776) (lZ:ln t.Z≤1099511627776) (hn:t.n≤1048576):
    Calls Tryz.prog 14 #[.agg #[.bool sap,.slice Aap nap cap,.bool sbp,.slice Abp nbp cbp,.bool sdp,.slice Adp ndp cdp,.slice Bp t.n dp,.int .i64 t.E],.agg #[.bool saq,.slice Aaq naq caq,.bool sbq,.slice Abq nbq cbq,.bool sdq,.slice Adq ndq cdq,.slice Bq t.n dq,.int .i64 t.E]] w (Gv w (Is (.bool true))):=by
 refine sx_enter Tryz.func14 rfl (n:=65) rfl (bq rfl) (args:= [.agg #[.bool sap,.slice Aap nap cap,.bool sbp,.slice Abp nbp cbp,.bool sdp,.slice Adp ndp cdp,.slice Bp t.n dp,.int .i64 t.E],.agg #[.bool saq,.slice Aaq naq caq,.bool sbq,.slice Abq nbq cbq,.bool sdq,.slice Adq ndq cdq,.slice Bq t.n dq,.int .i64 t.E]]) (cw_keep [(0,.agg #[.bool sap,.slice Aap nap cap,.bool sbp,.slice Abp nbp cbp,.bool sdp,.slice Adp ndp cdp,.slice Bp t.n dp,.int .i64 t.E]),(1,.agg #[.bool saq,.slice Aaq naq caq,.bool sbq,.slice Abq nbq cbq,.bool sdq,.slice Adq ndq cdq,.slice Bq t.n dq,.int .i64 t.E])] ⟨rfl,rfl,trivial⟩ (cw_seq ?_))
 have blk1:=lzp.block
 have blk2:=lzq.block
 refine cw_region (wl_box rfl rfl (vs:= [.bool sap,.slice Aap nap cap,.bool sbp,.slice Abp nbp cbp,.bool sdp,.slice Adp ndp cdp,.slice Bp t.n dp,.int .i64 t.E]) rfl (by decide) fun g3 v4 nb=>?_)
 have hb6:=nb.bk
 have ge7:w.heap.size≤g3:=by rw [←nb.at_];exact (Ext.refl w).size
 have ne8:∀p,Bp=some p→p.block≠g3:=fun p hp=>by have:=(lzp).block p hp;have:=nb.at_;omega
 have ne9:∀p,Bq=some p→p.block≠g3:=fun p hp=>by have:=(lzq).block p hp;have:=nb.at_;omega
 have e5:=nb.ext
 clear nb
 have hw1:=(Ext.refl w).trans e5
 refine wl_box rfl rfl (vs:= [.bool saq,.slice Aaq naq caq,.bool sbq,.slice Abq nbq cbq,.bool sdq,.slice Adq ndq cdq,.slice Bq t.n dq,.int .i64 t.E]) rfl (by decide) fun g10 v11 nb=>?_
 have hb13:=nb.bk
 have ge14:w.heap.size≤g10:=by rw [←nb.at_];exact hw1.size
 have q15:g3<g10:=by rw [←nb.at_];exact hb6.lt
 have ne16:∀p,Bp=some p→p.block≠g10:=fun p hp=>by have:=((lzp.ext e5)).block p hp;have:=nb.at_;omega
 have ne17:∀p,Bq=some p→p.block≠g10:=fun p hp=>by have:=((lzq.ext e5)).block p hp;have:=nb.at_;omega
 have e12:=nb.ext
 clear nb
 have hw2:=hw1.trans e12
 refine mv 1 rfl (ne_ (cw_seq (sr (pf g3 0 rfl (by kernel_rfl) (lo aggInt (hb6.ext e12) [.bool sap,.slice Aap nap cap] rfl rfl rfl (pf g10 0 rfl (by kernel_rfl) (lo aggInt hb13 [.bool saq,.slice Aaq naq caq] rfl rfl rfl (cl (vs:= [.agg #[.bool sap,.slice Aap nap cap],.agg #[.bool saq,.slice Aaq naq caq]]) hw2 (g_law6_alike (zap.ext (e5.trans e12)) (zap.le (lx_ lX rfl)) (zaq.ext (e5.trans e12)) (zaq.le (lx_ lX rfl))) rfl (by kernel_rfl) fun xr20 v18 r20 e19 hw3=>?_))))))))
 obtain rfl:=r20
 refine pu (v:= .bool false) rfl (by kernel_rfl) (mv 1 rfl (pf g3 2 rfl (by kernel_rfl) (lo aggInt (hb6.ext (e12.trans e19)) [.bool sbp,.slice Abp nbp cbp] rfl rfl rfl (pf g10 2 rfl (by kernel_rfl) (lo aggInt (hb13.ext e19) [.bool sbq,.slice Abq nbq cbq] rfl rfl rfl (cl (vs:= [.agg #[.bool sbp,.slice Abp nbp cbp],.agg #[.bool sbq,.slice Abq nbq cbq]]) hw3 (g_law6_alike (zbp.ext (e5.trans (e12.trans e19))) (zbp.le (lx_ lY rfl)) (zbq.ext (e5.trans (e12.trans e19))) (zbq.le (lx_ lY rfl))) rfl (by kernel_rfl) fun xr23 v21 r23 e22 hw4=>?_))))))
 obtain rfl:=r23
 refine pu (v:= .bool false) rfl (by kernel_rfl) (pu (v:= .bool false) rfl (by kernel_rfl) (mv 1 rfl (pf g3 4 rfl (by kernel_rfl) (lo aggInt (hb6.ext (e12.trans (e19.trans e22))) [.bool sdp,.slice Adp ndp cdp] rfl rfl rfl (pf g10 4 rfl (by kernel_rfl) (lo aggInt (hb13.ext (e19.trans e22)) [.bool sdq,.slice Adq ndq cdq] rfl rfl rfl (cl (vs:= [.agg #[.bool sdp,.slice Adp ndp cdp],.agg #[.bool sdq,.slice Adq ndq cdq]]) hw4 (g_law6_alike (zdp.ext (e5.trans (e12.trans (e19.trans e22)))) (zdp.le (lx_ lZ rfl)) (zdq.ext (e5.trans (e12.trans (e19.trans e22)))) (zdq.le (lx_ lZ rfl))) rfl (by kernel_rfl) fun xr26 v24 r26 e25 hw5=>?_)))))))
 obtain rfl:=r26
 refine pu (v:= .bool false) rfl (by kernel_rfl) (pu (v:= .bool false) rfl (by kernel_rfl) (mv 1 rfl (pf g3 7 rfl (by kernel_rfl) (wl_load rfl rfl (load_cell (fun _=>by kernel_rfl) (hb6.ext (e12.trans (e19.trans (e22.trans e25)))) rfl) (by decide) (pf g10 7 rfl (by kernel_rfl) (wl_load rfl rfl (load_cell (fun _=>by kernel_rfl) (hb13.ext (e19.trans (e22.trans e25))) rfl) (by decide) (wl_cmp rfl rfl rfl false (ne_f rfl) (by decide) (pu (v:= .bool false) rfl (by kernel_rfl) (mv 1 rfl (pf g3 6 rfl (by kernel_rfl) (wl_load rfl rfl (load_cell (fun _=>by kernel_rfl) (hb6.ext (e12.trans (e19.trans (e22.trans e25)))) rfl) (by decide) (pu (v:= .int .i64 ((t.n:Nat):Int)) rfl (by kernel_rfl) (pf g10 6 rfl (by kernel_rfl) ?_)))))))))))))
 refine wl_load rfl rfl (load_cell (fun _=>by kernel_rfl) (hb13.ext (e19.trans (e22.trans e25))) rfl) (by decide) (pu (v:= .int .i64 ((t.n:Nat):Int)) rfl (by kernel_rfl) (wl_cmp rfl rfl rfl false (cb_ne_f (a:=t.n) (b:=t.n) rfl rfl (by omega)) (by decide) (pu (v:= .bool false) rfl (by kernel_rfl) (ne_ (cw_false rfl (cw_skip (eo_then (cw_seq (sr (mv 1 rfl (ne_ (cw_block ?_))))))))))))
 refine cw_loop (T:=World×Nat)
  (fun⟨wr,i⟩=> [(2,.pointer (some ⟨g3,0,none⟩)),(3,.pointer (some ⟨g10,0,none⟩)),(4,.bool false),(5,.int .i64 ((i:Nat):Int))])
  (fun⟨wr,i⟩=>wr)
  (fun⟨wr,i⟩=>(Ext w wr)∧(i≤t.n)∧(Bk wr g3 42 [.bool sap,.slice Aap nap cap,.bool sbp,.slice Abp nbp cbp,.bool sdp,.slice Adp ndp cdp,.slice Bp t.n dp,.int .i64 t.E])∧(Bk wr g10 42 [.bool saq,.slice Aaq naq caq,.bool sbq,.slice Abq nbq cbq,.bool sdq,.slice Adq ndq cdq,.slice Bq t.n dq,.int .i64 t.E])∧(Lz none 8388608 b1 wr b1 Bp t.n dp t.L)∧(b1≤wr.heap.size)∧(Lz none 8388608 b2 wr b2 Bq t.n dq t.L)∧(b2≤wr.heap.size))
  (fun⟨wr,i⟩=>t.n-i)
  (⟨v24,0⟩:World×Nat) ⟨hw5,Nat.zero_le _,(hb6.ext (e12.trans (e19.trans (e22.trans e25)))),(hb13.ext (e19.trans (e22.trans e25))),(lzp.ext (e5.trans (e12.trans (e19.trans (e22.trans e25))))),(Nat.le_trans (Nat.le_trans (Nat.le_trans (Nat.le_trans (Nat.le_trans hbp e5.size) e12.size) e19.size) e22.size) e25.size),(lzq.ext (e5.trans (e12.trans (e19.trans (e22.trans e25))))),(Nat.le_trans (Nat.le_trans (Nat.le_trans (Nat.le_trans (Nat.le_trans hbq e5.size) e12.size) e19.size) e22.size) e25.size)⟩ rfl ⟨rfl,rfl,rfl,rfl,trivial⟩ ?_
 rintro⟨wr,i⟩ ⟨hw1,hile,b_2,b_3,llp,hhp,llq,hhq⟩
 refine cw_re [(2,.pointer (some ⟨g3,0,none⟩)),(3,.pointer (some ⟨g10,0,none⟩)),(4,.bool false),(5,.int .i64 ((i:Nat):Int))] wr rfl ⟨rfl,rfl,rfl,rfl,trivial⟩ ?_
 have blk27:=llp.block
 have blk28:=llq.block
 refine cw_seq (cw_seq ?_)
 by_cases hin:i<t.n
 · 
  refine cw_region (mv 1 rfl (pf g3 6 rfl (by kernel_rfl) (wl_load rfl rfl (load_cell (fun _=>by kernel_rfl) b_2 rfl) (by decide) (pu (v:= .int .i64 ((t.n:Nat):Int)) rfl (by kernel_rfl) (wl_cmp rfl rfl rfl true (cb_lt_t (a:=i) (b:=t.n) rfl rfl (by omega)) (by decide) (ne_ (cw_true rfl (cw_skip (eo_then (cw_seq (cw_block (cw_seq ?_))))))))))))
  obtain⟨pz29,sz29,Bz29,nz29,cz29,hpz29,ldz29,hKz29,ez29⟩:=(llp).at (i:=i) (by omega)
  have zz29:=ez29.zr
  have Lz29:ln (t.L.getD i 0)≤8388608:=zz29.ln_le hKz29
  obtain⟨pz30,sz30,Bz30,nz30,cz30,hpz30,ldz30,hKz30,ez30⟩:=(llq).at (i:=i) (by omega)
  have zz30:=ez30.zr
  have Lz30:ln (t.L.getD i 0)≤8388608:=zz30.ln_le hKz30
  refine cw_draw mix 11 [] [Is (.pointer (some ⟨g3,6,none⟩)),Is (.slice Bp t.n dp),Is (.int .i64 ((i:Nat):Int)),Is (.pointer (some pz29)),Is (.agg #[.bool sz29,.slice Bz29 nz29 cz29]),Is (.pointer (some ⟨g10,6,none⟩)),Is (.slice Bq t.n dq),Is (.int .i64 ((i:Nat):Int)),Is (.pointer (some pz30)),Is (.agg #[.bool sz30,.slice Bz30 nz30 cz30]),Is (.bool true)] [[],[0],[],[1,2],[3],[],[5],[],[6,7],[8],[4,9]] [[],[0],[],[0,1,2],[0,1,2,3],[],[5],[],[5,6,7],[5,6,7,8],[0,1,2,3,4,5,6,7,8,9],[0,1,2,3,4,5,6,7,8,9,10]] rfl
   (obs_cons rfl rfl (hob rfl rfl ?_) (obs_cons rfl rfl (hob rfl rfl ?_) (obs_cons rfl rfl (hob rfl rfl ?_) (obs_cons rfl rfl (hob rfl rfl ?_) (obs_cons rfl rfl (hob rfl rfl ?_) (obs_cons rfl rfl (hob rfl rfl ?_) (obs_cons rfl rfl (hob rfl rfl ?_) (obs_cons rfl rfl (hob rfl rfl ?_) (obs_cons rfl rfl (hob rfl rfl ?_) (obs_cons rfl rfl (hob rfl rfl ?_) (obs_cons rfl rfl (hob rfl rfl ?_) obs_nil))))))))))) ?_
  · 
   exact fun _ _=>deps_nil (pf g3 6 rfl (by kernel_rfl) (pi_done rfl (Ext.refl _) rfl))
  · 
   exact fun _ e34=>dk rfl rfl (deps_nil (wl_load rfl rfl (load_cell (fun _=>by kernel_rfl) (b_2.ext e34) rfl) (by decide) (pi_done rfl (Ext.refl _) rfl)))
  · 
   exact fun _ _=>deps_nil (mv 1 rfl (pi_done rfl (Ext.refl _) rfl))
  · 
   exact fun _ _=>dk rfl rfl (dk rfl rfl (deps_nil (wl_idx rfl rfl rfl elemI aggInt.size i rfl (by omega) pz29 hpz29 (by decide) (pi_done rfl (Ext.refl _) rfl))))
  · 
   exact fun _ e55=>dk rfl rfl (deps_nil (wl_load rfl rfl (ldz29 _ e55 _ _ aggInt) (by decide) (pi_done rfl (Ext.refl _) rfl)))
  · 
   exact fun _ _=>deps_nil (pf g10 6 rfl (by kernel_rfl) (pi_done rfl (Ext.refl _) rfl))
  · 
   exact fun _ e64=>dk rfl rfl (deps_nil (wl_load rfl rfl (load_cell (fun _=>by kernel_rfl) (b_3.ext e64) rfl) (by decide) (pi_done rfl (Ext.refl _) rfl)))
  · 
   exact fun _ _=>deps_nil (mv 1 rfl (pi_done rfl (Ext.refl _) rfl))
  · 
   exact fun _ _=>dk rfl rfl (dk rfl rfl (deps_nil (wl_idx rfl rfl rfl elemI aggInt.size i rfl (by omega) pz30 hpz30 (by decide) (pi_done rfl (Ext.refl _) rfl))))
  · 
   exact fun _ e85=>dk rfl rfl (deps_nil (wl_load rfl rfl (ldz30 _ e85 _ _ aggInt) (by decide) (pi_done rfl (Ext.refl _) rfl)))
  · 
   intro v91 e92
   have hw2:=hw1.trans e92
   refine dk rfl rfl (dk rfl rfl (deps_nil (cl (vs:= [.agg #[.bool sz29,.slice Bz29 nz29 cz29],.agg #[.bool sz30,.slice Bz30 nz30 cz30]]) hw2 (g_law6_alike (zz29.ext e92) (zz29.le (lx_ Lz29 rfl)) (zz30.ext e92) (zz30.le (lx_ Lz30 rfl))) rfl (by kernel_rfl) fun xr105 v103 r105 e104 hw3=>?_)))
   obtain rfl:=r105
   exact pi_done rfl e104 rfl
  · 
   intro v106 e107
   have hw2:=hw1.trans e107
   refine dk rfl rfl (dk rfl rfl (dk rfl rfl (dk rfl rfl (dk rfl rfl (dk rfl rfl (dk rfl rfl (dk rfl rfl (dk rfl rfl (dk rfl rfl (dk rfl rfl (deps_nil (mv 1 rfl (wl_nil ?_)))))))))))))
   refine eo_np (eo_then (sr (mv 1 rfl (pu (v:= .bool false) rfl (by kernel_rfl) (ne_ (cw_false rfl (cw_skip (eo_block_normal (eo_then (cw_region (mv 1 rfl (wl_ar rfl rfl rfl ((i+1:Nat):Int) (ai_add (a:=i) (b:=1) rfl rfl (by omega)) (by decide) (mv 1 rfl ?_)))))))))))))
   refine wl_nil (eo_round (⟨v106,i+1⟩:World×Nat) ⟨hw2,(by omega),(b_2.ext e107),(b_3.ext e107),(llp.ext e107),(Nat.le_trans hhp e107.size),(llq.ext e107),(Nat.le_trans hhq e107.size)⟩ (show t.n-(i+1)<t.n-i by omega) rfl ⟨rfl,rfl,rfl,rfl,trivial⟩)
 · 
  refine cw_region (mv 1 rfl (pf g3 6 rfl (by kernel_rfl) (wl_load rfl rfl (load_cell (fun _=>by kernel_rfl) b_2 rfl) (by decide) (pu (v:= .int .i64 ((t.n:Nat):Int)) rfl (by kernel_rfl) (wl_cmp rfl rfl rfl false (cb_lt_f (a:=i) (b:=t.n) rfl rfl (by omega)) (by decide) (ne_ (cw_false rfl (cw_exit (eo_thenX (eo_loopX (eo_block_here (eo_then (cw_seq ?_)))))))))))))
  refine cw_region (mv 1 rfl (ne_ (cw_ret (eo_ret [.bool true] rfl ⟨rfl,trivial⟩ ?_))))
  exact⟨_,rfl,rfl,hw1⟩
theorem g_same6 {w:World}{t:Ans6}{b1 b2:Nat}(hb1:b1≤w.heap.size) (hb2:b2≤w.heap.size){u v:Value}(hn:t.n≤1048576) (hu:AnsR6 b1 t u w) (hv:AnsR6 b2 t v w):Calls Tryz.prog 14 #[u,v] w (Gv w (Is (.bool true))):=by
 obtain⟨s,A,n,c,s',A',n',c',s2,A2,n2,c2,B,d,rfl,h1,h2,h3,h4,h5,h6,h7⟩:=hu
 obtain⟨r,C,m,e,r',C',m',e',r2,C2,m2,e2,D,f,rfl,k1,k2,k3,k4,_,_,_⟩:=hv
 exact g_same6I h1 h2 h3 h4 hb1 k1 k2 k3 k4 hb2 h5 h6 h7 hn
theorem spec6_n {k x y z u:Int}{zs ys:List Int}{n1 n2:Nat}(h:n1≤1048576):(spec6 k x y z u zs ys n1 n2).n≤1048576:=by
 unfold spec6
 repeat' split
 all_goals first | exact Nat.zero_le _ | exact h
set_option maxHeartbeats 8000000 in
set_option maxRecDepth 20000 in
theorem g_right6I {w:World}{k:Int}{A C:Option Addr}{n1 c1 n2 c2:Nat}{zs ys:List Int}{ms ms2:List Nat}{sa:Bool}{Aa:Option Addr}{na ca:Nat}{x:Int}{sb:Bool}{Ab:Option Addr}{nb cb:Nat}{y:Int}{sd:Bool}{Ad:Option Addr}{nd cd:Nat}{z:Int}{se:Bool}{Ae:Option Addr}{ne ce:Nat}{u:Int}(hx:Zi w sa Aa na ca x) (la:na≤1048576) (hy:Zi w sb Ab nb cb y) (lb:nb≤1048576) (hz:Zi w sd Ad nd cd z) (ld:nd≤1048576) (hu:Zi w se Ae ne ce u) (le:ne≤1048576) (hl:Zl w A n1 c1 zs ms) (hs:ms.sum≤1048576) (hl2:Zl w C n2 c2 ys ms2) (hs2:ms2.sum≤1048576) (hn1:n1≤1048576) (hn2:n2≤1048576):
    Calls Tryz.prog 6 #[.agg #[.int .i64 k,.bool sa,.slice Aa na ca,.bool sb,.slice Ab nb cb,.bool sd,.slice Ad nd cd,.bool se,.slice Ae ne ce,.slice A n1 c1,.slice C n2 c2]] w (Gv w (Is (.bool true))):=by
 refine sx_enter Tryz.func6 rfl (n:=12) rfl (bq rfl) (args:= [.agg #[.int .i64 k,.bool sa,.slice Aa na ca,.bool sb,.slice Ab nb cb,.bool sd,.slice Ad nd cd,.bool se,.slice Ae ne ce,.slice A n1 c1,.slice C n2 c2]]) (cw_keep [(0,.agg #[.int .i64 k,.bool sa,.slice Aa na ca,.bool sb,.slice Ab nb cb,.bool sd,.slice Ad nd cd,.bool se,.slice Ae ne ce,.slice A n1 c1,.slice C n2 c2])] ⟨rfl,trivial⟩ (sr (bx [.int .i64 k,.bool sa,.slice Aa na ca,.bool sb,.slice Ab nb cb,.bool sd,.slice Ad nd cd,.bool se,.slice Ae ne ce,.slice A n1 c1,.slice C n2 c2] (Ext.refl w) rfl rfl rfl fun g1 v2 hb4 ge5 e3 hw1=>(mv 1 rfl (ne_ (sr (lo aggOp6 hb4 [.int .i64 k,.bool sa,.slice Aa na ca,.bool sb,.slice Ab nb cb,.bool sd,.slice Ad nd cd,.bool se,.slice Ae ne ce,.slice A n1 c1,.slice C n2 c2] rfl rfl rfl (cl (vs:= [.agg #[.int .i64 k,.bool sa,.slice Aa na ca,.bool sb,.slice Ab nb cb,.bool sd,.slice Ad nd cd,.bool se,.slice Ae ne ce,.slice A n1 c1,.slice C n2 c2]]) hw1 (g_wants6 hw1.size (show Op6 _ k x y z u zs ys n1 n2 _ from⟨_,_,_,_,_,_,_,_,_,_,_,_,_,_,_,_,_,_,_,_,_,_,rfl,(hx.ext hw1),(lx_ la rfl),(hy.ext hw1),(lx_ lb rfl),(hz.ext hw1),(lx_ ld rfl),(hu.ext hw1),(lx_ le rfl),(hl.ext hw1),hs,(hl2.ext hw1),hs2,hn1,hn2⟩)) rfl (by kernel_rfl) fun xr8 v6 r8 e7 hw2=>?_))))))))
 obtain⟨s9,A9,n9,c9,t9,B9,m9,d9,r9,C9,o9,e9,D9,f9,rfl,zx9,zy9,zw9,lz9,lx9,ly9,lw9⟩:=r8
 have blk10:=lz9.block
 refine wl_alloc rfl (z:= .agg #[F0,S0,F0,S0,F0,S0,S0,I0]) (vs:= [F0,S0,F0,S0,F0,S0,S0,I0]) (fun _=>by kernel_rfl) rfl (by decide) fun g11 v12 nb=>?_
 have hb14:=nb.bk
 have ge15:w.heap.size≤g11:=by rw [←nb.at_];exact hw2.size
 have q16:g1<g11:=by rw [←nb.at_];exact (hb4.ext e7).lt
 have ne17:∀p,D9=some p→p.block≠g11:=fun p hp=>by have:=(lz9).block p hp;have:=nb.at_;omega
 have e13:=nb.ext
 clear nb
 have hw3:=hw2.trans e13
 refine so aggAns6 hb14 [.bool s9,.slice A9 n9 c9,.bool t9,.slice B9 m9 d9,.bool r9,.slice C9 o9 e9,.slice D9 ((spec6 k x y z u zs ys n1 n2).n) f9,.int .i64 ((spec6 k x y z u zs ys n1 n2).E)] hw3 ge15 rfl rfl rfl rfl fun v18 hb20 u21 hw4=>(ne_ (sr (lo aggOp6 ((hb4.ext (e7.trans e13)).updN u21 (by omega)) [.int .i64 k,.bool sa,.slice Aa na ca,.bool sb,.slice Ab nb cb,.bool sd,.slice Ad nd cd,.bool se,.slice Ae ne ce,.slice A n1 c1,.slice C n2 c2] rfl rfl rfl (cl (vs:= [.agg #[.int .i64 k,.bool sa,.slice Aa na ca,.bool sb,.slice Ab nb cb,.bool sd,.slice Ad nd cd,.bool se,.slice Ae ne ce,.slice A n1 c1,.slice C n2 c2]]) hw4 (g_plays6 hw4.size (show Op6 _ k x y z u zs ys n1 n2 _ from⟨_,_,_,_,_,_,_,_,_,_,_,_,_,_,_,_,_,_,_,_,_,_,rfl,(hx.ext hw4),(lx_ la rfl),(hy.ext hw4),(lx_ lb rfl),(hz.ext hw4),(lx_ ld rfl),(hu.ext hw4),(lx_ le rfl),(hl.ext hw4),hs,(hl2.ext hw4),hs2,hn1,hn2⟩)) rfl (by kernel_rfl) fun xr25 v23 r25 e24 hw5=>?_))))
 obtain⟨s26,A26,n26,c26,t26,B26,m26,d26,r26,C26,o26,e26,D26,f26,rfl,zx26,zy26,zw26,lz26,lx26,ly26,lw26⟩:=r25
 have blk27:=lz26.block
 refine wl_alloc rfl (z:= .agg #[F0,S0,F0,S0,F0,S0,S0,I0]) (vs:= [F0,S0,F0,S0,F0,S0,S0,I0]) (fun _=>by kernel_rfl) rfl (by decide) fun g28 v29 nb=>?_
 have hb31:=nb.bk
 have ge32:w.heap.size≤g28:=by rw [←nb.at_];exact hw5.size
 have q33:g11<g28:=by rw [←nb.at_];exact (hb20.ext e24).lt
 have ne34:∀p,D9=some p→p.block≠g28:=fun p hp=>by have:=((((lz9.ext e13).updT hb14 u21 ne17).ext e24)).block p hp;have:=nb.at_;omega
 have ne35:∀p,D26=some p→p.block≠g28:=fun p hp=>by have:=(lz26).block p hp;have:=nb.at_;omega
 have e30:=nb.ext
 clear nb
 have hw6:=hw5.trans e30
 refine so aggAns6 hb31 [.bool s26,.slice A26 n26 c26,.bool t26,.slice B26 m26 d26,.bool r26,.slice C26 o26 e26,.slice D26 ((spec6 k x y z u zs ys n1 n2).n) f26,.int .i64 ((spec6 k x y z u zs ys n1 n2).E)] hw6 ge32 rfl rfl rfl rfl fun v36 hb38 u39 hw7=>(ne_ (sr (lo aggAns6 hb38 [.bool s26,.slice A26 n26 c26,.bool t26,.slice B26 m26 d26,.bool r26,.slice C26 o26 e26,.slice D26 ((spec6 k x y z u zs ys n1 n2).n) f26,.int .i64 ((spec6 k x y z u zs ys n1 n2).E)] rfl rfl rfl (lo aggAns6 ((hb20.ext (e24.trans e30)).updN u39 (by omega)) [.bool s9,.slice A9 n9 c9,.bool t9,.slice B9 m9 d9,.bool r9,.slice C9 o9 e9,.slice D9 ((spec6 k x y z u zs ys n1 n2).n) f9,.int .i64 ((spec6 k x y z u zs ys n1 n2).E)] rfl rfl rfl (cl (vs:= [.agg #[.bool s26,.slice A26 n26 c26,.bool t26,.slice B26 m26 d26,.bool r26,.slice C26 o26 e26,.slice D26 ((spec6 k x y z u zs ys n1 n2).n) f26,.int .i64 ((spec6 k x y z u zs ys n1 n2).E)],.agg #[.bool s9,.slice A9 n9 c9,.bool t9,.slice B9 m9 d9,.bool r9,.slice C9 o9 e9,.slice D9 ((spec6 k x y z u zs ys n1 n2).n) f9,.int .i64 ((spec6 k x y z u zs ys n1 n2).E)]]) hw7 (g_same6 hw7.size hw7.size (spec6_n hn1) (show AnsR6 w.heap.size (spec6 k x y z u zs ys n1 n2) _ _ from⟨_,_,_,_,_,_,_,_,_,_,_,_,_,_,rfl,((zx26.ext e30).updT hb31 u39),((zy26.ext e30).updT hb31 u39),((zw26.ext e30).updT hb31 u39),((lz26.ext e30).updT hb31 u39 ne35),lx26,ly26,lw26⟩) (show AnsR6 w.heap.size (spec6 k x y z u zs ys n1 n2) _ _ from⟨_,_,_,_,_,_,_,_,_,_,_,_,_,_,rfl,((((zx9.ext e13).updT hb14 u21).ext (e24.trans e30)).updT hb31 u39),((((zy9.ext e13).updT hb14 u21).ext (e24.trans e30)).updT hb31 u39),((((zw9.ext e13).updT hb14 u21).ext (e24.trans e30)).updT hb31 u39),((((lz9.ext e13).updT hb14 u21 ne17).ext (e24.trans e30)).updT hb31 u39 ne34),lx9,ly9,lw9⟩)) rfl (by kernel_rfl) fun xr43 v41 r43 e42 hw8=>?_)))))
 obtain rfl:=r43
 refine mv 1 rfl (ne_ (cw_ret (eo_ret [.bool true] rfl ⟨rfl,trivial⟩ ?_)))
 exact⟨_,rfl,rfl,hw8⟩
theorem g_right6 {w:World}{k x y z u:Int}{zs ys:List Int}{n1 n2:Nat}{v:Value}(h:Op6 w k x y z u zs ys n1 n2 v):
  Calls Tryz.prog 6 #[v] w (Gv w (Is (.bool true))):=by
 obtain⟨sa,Aa,na,ca,sb,Ab,nb,cb,sd,Ad,nd,cd,se,Ae,ne,ce,A,c1,ms,C,c2,ms2,rfl,h1,h2,h3,h4,h5,h6,h7,h8,h9,h10,h11,h12,h13,h14⟩:=h
 exact g_right6I h1 h2 h3 h4 h5 h6 h7 h8 h9 h10 h11 h12 h13 h14
set_option maxHeartbeats 8000000 in
set_option maxRecDepth 20000 in
theorem law_BezoutAllP {w:World}{A:Option Addr}{n cap:Nat}(ho:Al 11 Op6c w A n) (hn:n≤1048576):
    Calls Tryz.prog 3 #[.slice A n cap] w (Gv w (Is (.bool true))):=by
 refine sx_enter Tryz.func3 rfl (n:=20) rfl (bq rfl) (args:= [.slice A n cap]) (cw_keep [(0,.slice A n cap)] ⟨rfl,trivial⟩ (sr (mv 1 rfl (ne_ (cw_seq (sr (cl (vs:= []) (Ext.refl w) (g_law6_wakes _) rfl (by kernel_rfl) fun xr3 v1 r3 e2 hw1=>?_)))))))
 obtain rfl:=r3
 refine pu (v:= .bool false) rfl (by kernel_rfl) (ne_ (cw_false rfl (cw_skip (eo_then (cw_seq (sr (mv 1 rfl (ne_ (cw_block ?_)))))))))
 refine cw_loop (T:=World×Nat)
  (fun⟨wr,i⟩=> [(0,.slice A n cap),(3,.int .i64 ((i:Nat):Int))])
  (fun⟨wr,i⟩=>wr)
  (fun⟨wr,i⟩=>(Ext w wr)∧(i≤n))
  (fun⟨wr,i⟩=>n-i)
  (⟨v1,0⟩:World×Nat) ⟨hw1,(Nat.zero_le _)⟩ rfl ⟨rfl,rfl,trivial⟩ ?_
 rintro⟨wr,i⟩ ⟨hw1,hile⟩
 refine cw_re [(0,.slice A n cap),(3,.int .i64 ((i:Nat):Int))] wr rfl ⟨rfl,rfl,trivial⟩ (cw_seq (cw_seq ?_))
 by_cases hin:i<n
 · 
  refine cw_region (mv 2 rfl (pu (v:= .int .i64 ((n:Nat):Int)) rfl (by kernel_rfl) (wl_cmp rfl rfl rfl true (cb_lt_t (a:=i) (b:=n) rfl rfl (by omega)) (by decide) (ne_ (cw_true rfl (cw_skip (eo_then (cw_seq (cw_block (sr (mv 2 rfl ?_)))))))))))
  obtain⟨p4,v4,k4,x4,y4,z4,u4,zs4,ys4,n14,n24,hp4,ld4,hop4⟩:=ho.at11 (i:=i) (by omega)
  refine wl_idx rfl rfl rfl Tryz.underlying22 aggOp6.size i rfl (by omega) p4 hp4 (by decide) (wl_load rfl rfl (ld4 _ hw1) (by decide) (cl (vs:= [v4]) hw1 (g_right6 (hop4.ext hw1)) rfl (by kernel_rfl) fun xr7 v5 r7 e6 hw2=>?_))
  obtain rfl:=r7
  refine mv 1 rfl (ne_ (sr (mv 1 rfl (pu (v:= .bool false) rfl (by kernel_rfl) (ne_ (cw_false rfl (cw_skip (eo_block_normal (eo_then (cw_region (mv 1 rfl (wl_ar rfl rfl rfl ((i+1:Nat):Int) (ai_add (a:=i) (b:=1) rfl rfl (by omega)) (by decide) (mv 1 rfl ?_)))))))))))))
  refine wl_nil (eo_round (⟨v5,i+1⟩:World×Nat) ⟨hw2,(by omega)⟩ (show n-(i+1)<n-i by omega) rfl ⟨rfl,rfl,trivial⟩)
 · 
  refine cw_region (mv 2 rfl (pu (v:= .int .i64 ((n:Nat):Int)) rfl (by kernel_rfl) (wl_cmp rfl rfl rfl false (cb_lt_f (a:=i) (b:=n) rfl rfl (by omega)) (by decide) (ne_ (cw_false rfl (cw_exit (eo_thenX (eo_loopX (eo_block_here (eo_then (sr (mv 1 rfl (wl_nil ?_)))))))))))))
  refine eo_then (cw_ret (eo_ret [.bool true] rfl ⟨rfl,trivial⟩ ?_))
  exact⟨_,rfl,rfl,hw1⟩
theorem law_BezoutAll {w:World}{A:Option Addr}{n cap:Nat}(ho:Al 11 Op6c w A n) (hn:n≤1048576):Calls Tryz.prog 3 #[.slice A n cap] w (BoolP true w):=(law_BezoutAllP ho hn).mono fun e w' h=>bool_of _ _ h
end Go.Proofs.YtgilhcdglaneiaaGreat
