/- Parts Rxb, Rxc, Rs, Str, Ops, One, Rxd, Rt, Ru, Rxe, Rv, Rw, Law4, Law4t, Grp2, Strc, Lg5, Lg5b, Law5s, Ref1, Ref1b, Ref2, Ref1d, joined. -/
import Derived.Test.YthggegdkpalgbaaGreatDoorP2
import Derived.Laws.BytesString
import Derived.Laws.Concat
import Derived.Laws.RangeAny
import Derived.ChangeMaps5
import Derived.Deep.Slices
import Derived.Laws.Slices

namespace Go.Proofs.YthggegdkpalgbaaGreatDoor
open Go.RowKit
theorem wl_mm {P:Program}{Q:Exit→Act→World→Prop}{n:Nat}{l:Fr}{w:World}{ops:Array Oper}{rest:List Oper}{d:Nat}{ty:TypeId}{pos:String}{af:Array Edge}{gd:Option (Nat×Bool)}{x y:Operand}{ts:Array TypeId}{k:IntKind}{a b:Int}(hw:guardB ops l gd=some true)
  (hx:evo l x=some (.int k a)) (hy:evo l y=some (.int k b)) (c:Int) (hc:max a b=c) (hn:d<n) (h:wl P ops Q n rest ((d,.int k c)::l) w):wl P ops Q n (⟨some d,.call {callee:= .builtin .max,args:= #[x,y],argTypes:=ts},ty,pos,af,gd⟩::rest) l w:=by
 refine wl_val hw hn (fun a' ha=>?_) h
 have e:(if b>a then b else a)=c:=by rw [←hc];split <;> omega
 unfold execOp
 simp only [resolve,invoke,builtin,Sem.run_bind,Sem.run_pure,Result.andThen_ok,List.map_toArray,List.map_cons,List.map_nil,ha.ev hx,ha.ev hy,Builtin.max_,List.foldlM,Builtin.max2,e]
theorem wl_mi {P:Program}{Q:Exit→Act→World→Prop}{n:Nat}{l:Fr}{w:World}{ops:Array Oper}{rest:List Oper}{d:Nat}{ty:TypeId}{pos:String}{af:Array Edge}{gd:Option (Nat×Bool)}{x y:Operand}{ts:Array TypeId}{k:IntKind}{a b:Int}(hw:guardB ops l gd=some true)
  (hx:evo l x=some (.int k a)) (hy:evo l y=some (.int k b)) (c:Int) (hc:min a b=c) (hn:d<n) (h:wl P ops Q n rest ((d,.int k c)::l) w):wl P ops Q n (⟨some d,.call {callee:= .builtin .min,args:= #[x,y],argTypes:=ts},ty,pos,af,gd⟩::rest) l w:=by
 refine wl_val hw hn (fun a' ha=>?_) h
 have e:(if b<a then b else a)=c:=by rw [←hc];split <;> omega
 unfold execOp
 simp only [resolve,invoke,builtin,Sem.run_bind,Sem.run_pure,Result.andThen_ok,List.map_toArray,List.map_cons,List.map_nil,ha.ev hx,ha.ev hy,Builtin.min_,List.foldlM,Builtin.min2,e]
theorem rx_BitLen {w:World}{A:Option Addr}{n c m:Nat}(hx:Wi w A n c m) (hl:n≤1099511627775):Calls Tryz.prog 116 #[.slice A n c] w (Gv w (Is (.int .i64 ((blen m:Nat):Int)))):=by
 obtain⟨xs,h1,rfl⟩:=hx
 refine (nat_BitLen h1 hl).mono fun e w' h=>?_
 obtain⟨k,h2,rfl,h3⟩:=h
 exact⟨_,rfl,(show Value.int .i64 (k:Int)=_ by rw [h2.out]),h3⟩
theorem rx_Word {w:World}{A:Option Addr}{n c m v:Nat}(hx:Wi w A n c m) (hl:n≤1099511627775) (hv0:v≠0) (hvb:v≤18446744073709551615):
  Calls Tryz.prog 180 #[.slice A n c,.int .u64 (v:Int)] w (Gv w (T3 (WR w.heap.size (m/v)) (Is (.int .u64 ((m%v:Nat):Int))) (Is (.int .i64 0)))):=by
 obtain⟨xs,h1,rfl⟩:=hx
 refine (divnat_Word h1 hl hv0 hvb).mono fun e w' h=>?_
 obtain⟨A,n,cap,r',rfl,h2,h3,h4,h5,h6,h7⟩:=h
 exact⟨_,rfl,⟨_,_,_,rfl,⟨A,n,cap,rfl,h4.out,h6⟩,(show Value.int .u64 (r':Int)=_ by rw [h2.out]),rfl⟩,h7⟩
def catd (b k at_:Nat):List Nat→List Nat
 | []=> []
 | [x]=>padTo (db b x) at_
 | x::y::r=>padTo (db b x) k++catd b k at_ (y::r)
theorem catd_cons {b k a x:Nat}{r:List Nat}:catd b k a (x::r)=padTo (db b x) (if r= [] then a else k)++catd b k a r:=by
 cases r with
 | nil=>simp [catd]
 | cons y r=>simp [catd]
theorem padTo_of {l:List Nat}{k:Nat}(h:k≤l.length):padTo l k=l:=by rw [padTo,Nat.sub_eq_zero_of_le h];simp
theorem padTo_app {l r:List Nat}{k:Nat}:l++padTo r k=padTo (l++r) (l.length+k):=by
 unfold padTo
 rw [List.append_assoc,List.length_append]
 congr 2
 congr 1
 omega
theorem db_split {b k m:Nat}(hb:2≤b) (hq:m/b^k≠0):db b m=padTo (db b (m%b^k)) k++db b (m/b^k):=by
 have hu:0<b^k:=Nat.pow_pos (by omega)
 have hl:(db b (m%b^k)).length≤k:=len_db_le hb (Nat.mod_lt _ hu)
 have hlen:(padTo (db b (m%b^k)) k).length=k:=by rw [len_padTo];omega
 have hn:nb b (padTo (db b (m%b^k)) k)=m%b^k:=by rw [padTo,nb_append_zeros,nb_db hb]
 have hv:nb b (padTo (db b (m%b^k)) k++db b (m/b^k))=m:=by
  rw [nb_append,hn,hlen,nb_db hb,Nat.mod_add_div]
 have hw:Wfb b (padTo (db b (m%b^k)) k++db b (m/b^k)):=Wfb_append (Wfb_append (Wfb_db hb _) (fun x hx=>by rw [List.eq_of_mem_replicate hx];omega)) (Wfb_db hb _)
 have ht:=db_top hb (m/b^k)
 have hne:(db b (m/b^k)).length≠0:=fun e=>hq ((len_db_zero hb).1 e)
 have key:=db_of_top' hb hw (Or.inr (by
  rw [List.length_append,hlen,List.getD_eq_getElem?_getD,List.getElem?_append_right (by rw [hlen];omega),hlen,show k+(db b (m/b^k)).length-1-k=(db b (m/b^k)).length-1 by omega,←List.getD_eq_getElem?_getD]
  rcases ht with h | h
  ·exact absurd h hne
  ·exact h))
 rw [hv] at key
 exact key
theorem catd_db {b k a:Nat}(hb:2≤b) (_hk:1≤k) (hu:2≤b^k):∀(n m:Nat),m≤n→m≠0→catd b k a (db (b^k) m)=padTo (db b m) (((db (b^k) m).length-1)*k+a):=by
 intro n
 induction n with
 | zero=>intro m hm h0;omega
 | succ n ih=>
  intro m hm h0
  have e:=db_pos hu h0
  rw [e,catd_cons]
  by_cases hq:m/b^k=0
  ·have e2:db (b^k) (m/b^k)= []:=by rw [hq];rfl
   have e3:m%b^k=m:=Nat.mod_eq_of_lt ((Nat.div_eq_zero_iff_lt (by omega)).1 hq)
   rw [e2,if_pos rfl,e3]
   simp [catd]
  ·have hne:db (b^k) (m/b^k)≠ []:=fun e=>hq ((db_eq_nil hu).1 e)
   rw [if_neg hne,ih (m/b^k) (by have:=Nat.div_lt_self (show 0<m by omega) (show 1<b^k by omega);omega) hq]
   rw [padTo_app,←db_split hb hq]
   congr 1
   have hl:(db b (m%b^k)).length≤k:=len_db_le hb (Nat.mod_lt _ (by omega))
   have hp:0<(db (b^k) (m/b^k)).length:=List.length_pos_iff.2 hne
   rw [len_padTo,List.length_cons,Nat.max_eq_right hl]
   obtain⟨p,hp'⟩:∃p,(db (b^k) (m/b^k)).length=p+1:=⟨_,(Nat.succ_pred_eq_of_pos hp).symm⟩
   rw [hp']
   simp only [Nat.add_sub_cancel,Nat.add_mul]
   omega
theorem len_db_ge {b k m:Nat}(hb:2≤b) (hu:2≤b^k) (h0:m≠0):((db (b^k) m).length-1)*k<(db b m).length:=by
 have h1:=pow_len_db_le hu h0
 rw [←Nat.pow_mul,Nat.mul_comm] at h1
 refine Nat.lt_of_not_le fun h=>?_
 have h2:=lt_pow_len_db hb m
 have h3:=Nat.pow_le_pow_right (show 0<b by omega) h
 omega
theorem plain_all {b k m width pl:Nat}(hb:2≤b) (hk:1≤k) (hu:2≤b^k) (hpl:(db (b^k) m).length=pl):
  List.replicate (width-pl*k) 48++txt (catd b k (min (width+k-pl*k) k) (db (b^k) m))=txt (padTo (db b m) width):=by
 by_cases h0:m=0
 ·subst h0
  have e:pl=0:=by rw [←hpl];rfl
  subst e
  rw [db_zero,db_zero]
  simp [catd,txt,padTo,sgn_zero]
 ·have hp:1≤pl:=by
   have:(db (b^k) m).length≠0:=fun e=>h0 ((len_db_zero hu).1 e)
   omega
  have hge:=len_db_ge hb hu h0
  rw [catd_db hb hk hu m m (Nat.le_refl _) h0,hpl]
  rw [hpl] at hge
  obtain⟨q,rfl⟩:∃q,pl=q+1:=⟨pl-1,by omega⟩
  have hlt:(db b m).length≤(q+1)*k:=by
   refine len_db_le hb ?_
   have:=lt_pow_len_db hu m
   rw [hpl,←Nat.pow_mul,Nat.mul_comm] at this
   exact this
  rw [Nat.add_mul,Nat.one_mul] at hlt
  rw [Nat.add_sub_cancel] at hge
  rw [Nat.add_sub_cancel,Nat.add_mul,Nat.one_mul]
  rw [txt_pad,txt_pad,←List.append_assoc,List.replicate_append_replicate]
  congr 2
  generalize q*k=qk at*
  omega
theorem one_news {w:World}{g:Nat}{T:TypeId}(v:Value) (h:Bk w g T [v]):∀j u,[v][j]?=some u→w.cell? ((⟨g,0,none⟩:Addr).add j)=some u:=by
 intro j u hj
 have hjl:=(List.getElem?_eq_some_iff.1 hj).1
 rw [add_lit0,Nat.zero_add,h.cell hjl,List.getD_eq_getElem?_getD,hj];rfl
theorem len_db_small {b m n:Nat}(hb:2≤b) (h:(wd m).length≤n):(db b m).length≤64*n:=by
 refine len_db_le hb ?_
 have h1:=lt_pow_len m
 rw [WB_pow,←Nat.pow_mul] at h1
 exact Nat.lt_of_lt_of_le h1 (Nat.le_trans (Nat.pow_le_pow_right (by decide) (Nat.mul_le_mul_left _ h)) (Nat.pow_le_pow_left hb _))
theorem Kept.refl (w:World) (A:Option Addr):Kept w A A:=fun p hp=>Or.inl ⟨p,hp,rfl⟩
theorem Kept.next {w v:World}{A B C:Option Addr}(h:Kept w A B) (k:Kept v B C) (hs:w.heap.size≤v.heap.size):Kept w A C:=fun p hp=>by
 rcases k p hp with⟨q,hq,e⟩ | e
 ·rcases h q hq with⟨r,hr,e2⟩ | e2
  ·exact Or.inl ⟨r,hr,by rw [e,e2]⟩
  ·exact Or.inr (by omega)
 ·exact Or.inr (Nat.le_trans hs e)
theorem kept_typ {w:World}{lb:Nat}{A B:Option Addr}{n c:Nat}{us:List Value}(h:Own w lb 5 1 A n c us) (k:Kept w A B):∀(p:Addr) (cs:Array Value) (t:TypeId) (fr:Nat×Nat),B=some p→w.heap[p.block]?=some (.cells cs t fr)→t=5:=fun p cs t fr hp h'=>by
 rcases k p hp with⟨q,hq,e⟩ | e
 ·rw [e] at h';exact own_typ h q cs t fr hq h'
 ·exact absurd h' (bk_new e)
theorem rep_snoc {bs:List Nat}{z:Nat}:(bs++List.replicate (z+1) 48).map B8=(bs++List.replicate z 48).map B8++ [.int .u8 48]:=by
 rw [List.replicate_succ',←List.append_assoc,List.map_append];rfl
theorem own_len {w:World}{b n c:Nat}{T:TypeId}{A:Option Addr}{l:List Nat}(h:Own w b T 1 A n c (l.map B8)):n=l.length:=by have:=h.rv.len;rw [List.length_map,Nat.mul_one] at this;exact this.symm
theorem drop_getD {l:List Nat}{q:Nat}(h:q<l.length):l.drop q=l.getD q 0::l.drop (q+1):=by rw [List.drop_eq_getElem_cons h,List.getD_eq_getElem?_getD,List.getElem?_eq_getElem h];rfl
set_option maxHeartbeats 4000000 in
theorem rx_plain {w:World}{g base k unit:Nat}{PA:Option Addr}{pn pc:Nat}{OA:Option Addr}{on oc lb:Nat}{bs:List Nat}(hS:Signs w) (hgS:3<lb) (hbl:2≤base) (hbu:base≤36) (hW:Wr w g base k unit PA pn pc OA on oc) (hO:Own w lb 5 1 OA on oc (bs.map B8)) (hgl:lb≤g) (hlb:lb≤w.heap.size){A:Option Addr}{an ac m width:Nat}(ha:Wi w A an ac m) (hal:an≤4194304) (hun:unit=base^k) (hkk:PieceK base k) (hwd:width≤137438953472) (hon:on≤137438953472):
    Calls Tryz.prog 196 #[.pointer (some ⟨g,0,none⟩),.slice A an ac,.int .i64 ((width:Nat):Int)] w (WrP w lb g base k unit PA pn pc OA (bs++txt (padTo (db base m) width))):=by
 have hml:(wd m).length≤4194304:=Nat.le_trans ha.len hal
 have hum:unit≤18446744073709551615:=by rw [hun];exact hkk.le
 have hk1:1≤k:=by refine Nat.pos_of_ne_zero (fun e=>?_);have:=hkk.gt;rw [e,Nat.zero_add,Nat.pow_one] at this;omega
 have hu2:2≤unit:=by rw [hun];exact Nat.le_trans hbl (Nat.le_trans (Nat.le_of_eq (Nat.pow_one base).symm) (Nat.pow_le_pow_right (by omega) hk1))
 refine sx_enter Tryz.func196 rfl (n:=93) rfl (bq rfl) (args:= [.pointer (some ⟨g,0,none⟩),.slice A an ac,.int .i64 ((width:Nat):Int)]) (cw_keep [(0,.pointer (some ⟨g,0,none⟩)),(1,.slice A an ac),(2,.int .i64 ((width:Nat):Int))] ⟨rfl,rfl,rfl,trivial⟩ (sr (mv 1 rfl (ne_ (cw_seq (cw_block ?_))))))
 obtain⟨lb2,hlb2,hle2⟩:∃lb2,lb2≤w.heap.size∧w.heap.size≤lb2:=⟨_,Nat.le_refl _,(Ext.refl w).size⟩
 refine cw_loop (T:=World×Option Addr×Nat×Nat×Nat×Option Addr×Nat×Nat×List Nat)
  (fun⟨wr,QA,qn,qc,mm,PA2,pn2,pc2,ps⟩=> [(0,.pointer (some ⟨g,0,none⟩)),(2,.int .i64 ((width:Nat):Int)),(1,.slice QA qn qc),(6,.slice PA2 pn2 pc2)])
  (fun⟨wr,QA,qn,qc,mm,PA2,pn2,pc2,ps⟩=>wr)
  (fun⟨wr,QA,qn,qc,mm,PA2,pn2,pc2,ps⟩=>(UpdW lb w wr)∧(Ext w wr)∧(lb2≤wr.heap.size)∧(db unit m=ps++db unit mm)∧(ps.length=pn2)∧(Wi wr QA qn qc mm)∧(qn≤4194304)∧(Own wr lb2 67 1 PA2 pn2 pc2 (ps.map W64))∧(mm≤m))
  (fun⟨wr,QA,qn,qc,mm,PA2,pn2,pc2,ps⟩=>mm)
  (⟨w,A,an,ac,m,none,0,0,[]⟩:World×Option Addr×Nat×Nat×Nat×Option Addr×Nat×Nat×List Nat) ⟨(UpdW.refl lb w),(Ext.refl w),hlb2,rfl,rfl,ha,hal,(Own.nil _ _ _ _),(Nat.le_refl _)⟩ rfl ⟨rfl,rfl,rfl,rfl,trivial⟩ ?_
 rintro⟨wr,QA,qn,qc,mm,PA2,pn2,pc2,ps⟩ ⟨hw1,hx1,hlb2,hdb,hpl,hq,hqn,hP,hms⟩
 refine cw_re [(0,.pointer (some ⟨g,0,none⟩)),(2,.int .i64 ((width:Nat):Int)),(1,.slice QA qn qc),(6,.slice PA2 pn2 pc2)] wr rfl ⟨rfl,rfl,rfl,rfl,trivial⟩ (cw_seq (cw_seq ?_))
 by_cases hm0:mm=0
 · 
  have hbl0:blen mm=0:=by rw [hm0];rfl
  refine cw_region (mv 1 rfl (wl_call rfl rfl (vs:= [.slice QA qn qc]) (by kernel_rfl) (by decide) (rx_BitLen hq (by omega)) ?_))
  rintro _ v1 ⟨xr3,rfl,r3,e2⟩
  refine ret_intro ?_
  have hw2:UpdW lb w v1:=hw1.trans e2
  have hx2:Ext w v1:=hx1.trans e2
  obtain rfl:=r3
  refine wl_cmp rfl rfl rfl false (cb_gt_f (a:=blen mm) (b:=0) rfl rfl (by omega)) (by decide) (ne_ (cw_false rfl (cw_exit (eo_thenX (eo_loopX (eo_block_here (eo_then (cw_seq ?_))))))))
  have hdbm:db unit m=ps:=by rw [hdb,hm0,db_zero,List.append_nil]
  have psWf:Wf ps:=fun x hx=>by have:=Wfb_db hu2 m x (hdbm.symm▸hx);rw [WB_def];omega
  have psW:∀q,ps.getD q 0≤18446744073709551615:=fun q=>by have:=Wf_getD psWf q;rw [WB_def] at this;omega
  have hpk:pn2*k≤268435456*64:=Nat.mul_le_mul (by have:=len_db_small hu2 hml;rw [hdbm,hpl] at this;omega) hkk.le64
  have hpn:pn2≤268435456:=by have:=len_db_small hu2 hml;rw [hdbm,hpl] at this;omega
  refine cw_region (mv 1 rfl (pu (v:= .int .i64 ((pn2:Nat):Int)) rfl (by kernel_rfl) (wl_ar rfl rfl rfl (((pn2:Nat):Int)-1) (ar_i64s rfl (by omega) (by omega)) (by decide) (mv 1 rfl (pf g 0 rfl (by kernel_rfl) (pf g 1 rfl (by kernel_rfl) (wl_load rfl rfl (load_cell (fun _=>by kernel_rfl) (hW.ext (hx1.trans e2)) rfl) (by decide) (wl_ar rfl rfl rfl (((pn2*k:Nat):Int)-(k:Int)) (ar_i64m (by rw [Int.sub_mul,Int.one_mul,Int.natCast_mul]) (by have:=hkk.le64;omega) (by omega)) (by decide) (mv 1 rfl (ne_ (cw_seq (sr (mv 1 rfl ?_)))))))))))))
  refine mv 1 rfl (ne_ (cw_block ?_))
  refine cw_loop (T:=World×Nat×Nat×Option Addr×Nat×Nat)
   (fun⟨wz,nn,z,OB,ob,oc2⟩=> [(0,.pointer (some ⟨g,0,none⟩)),(2,.int .i64 ((width:Nat):Int)),(6,.slice PA2 pn2 pc2),(10,.int .i64 (((pn2*k:Nat):Int)-(k:Int))),(11,.int .i64 ((nn:Nat):Int))])
   (fun⟨wz,nn,z,OB,ob,oc2⟩=>wz)
   (fun⟨wz,nn,z,OB,ob,oc2⟩=>(UpdW lb w wz)∧(nn+z=width)∧(z≤width-pn2*k)∧(ob=on+z)∧(Bk wz g 141 [.int .i64 (base:Int),.int .i64 (k:Int),.int .u64 (unit:Int),.slice PA pn pc,.slice OB ob oc2])∧(Own wz lb 5 1 OB ob oc2 ((bs++List.replicate z 48).map B8))∧(Kept w OA OB)∧(Own wz lb2 67 1 PA2 pn2 pc2 (ps.map W64))∧(lb2≤wz.heap.size))
   (fun⟨wz,nn,z,OB,ob,oc2⟩=>nn)
   (⟨v1,width,0,OA,on,oc⟩:World×Nat×Nat×Option Addr×Nat×Nat) ⟨hw2,rfl,(Nat.zero_le _),rfl,(hW.ext (hx1.trans e2)),(by rw [List.replicate_zero,List.append_nil];exact (hO.ext (hx1.trans e2))),(Kept.refl w OA),(hP.ext e2),(Nat.le_trans hlb2 (e2.size))⟩ rfl ⟨rfl,rfl,rfl,rfl,rfl,trivial⟩ ?_
  rintro⟨wz,nn,z,OB,ob,oc2⟩ ⟨hw1,hnz2,hzw,hob,b_g,hO2,hkp,hP2,hlb3⟩
  refine cw_re [(0,.pointer (some ⟨g,0,none⟩)),(2,.int .i64 ((width:Nat):Int)),(6,.slice PA2 pn2 pc2),(10,.int .i64 (((pn2*k:Nat):Int)-(k:Int))),(11,.int .i64 ((nn:Nat):Int))] wz rfl ⟨rfl,rfl,rfl,rfl,rfl,trivial⟩ (cw_seq (cw_seq ?_))
  by_cases hnz:nn>pn2*k
  · 
   refine cw_region (mv 3 rfl (pf g 0 rfl (by kernel_rfl) (pf g 1 rfl (by kernel_rfl) (wl_load rfl rfl (load_cell (fun _=>by kernel_rfl) b_g rfl) (by decide) (wl_ar rfl rfl rfl ((pn2*k:Nat):Int) (ar_i64 (by omega) (by omega) (by omega)) (by decide) (wl_mm rfl rfl rfl (((pn2*k:Nat):Int)) (by omega) (by decide) (wl_cmp rfl rfl rfl true (cb_gt_t (a:=nn) (b:=pn2*k) rfl rfl (by omega)) (by decide) (ne_ (cw_true rfl (cw_skip (eo_then (cw_seq (cw_block ?_)))))))))))))
   refine cw_region (mv 2 rfl (pf g 0 rfl (by kernel_rfl) (pf g 4 rfl (by kernel_rfl) (wl_load rfl rfl (load_cell (fun _=>by kernel_rfl) b_g rfl) (by decide) (wl_bslice rfl rfl (by decide) (k:=1) (e:=5) [.int .u8 48] (fun _=>by kernel_rfl) fun g4 v5 nb=>?_)))))
   have hb6:=nb.bk
   have e7:=nb.ext
   clear nb
   have hw2:UpdW lb w v5:=hw1.trans e7
   have ow8:=(hO2.ext e7)
   refine wl_app rfl rfl rfl un_u8 info8 rfl (by decide) (by decide) ow8 (Nat.le_trans hlb hw2.size) [.int .u8 48] rfl (one_news _ hb6) rfl (by omega) (by decide) fun A9 c10 v11 ho12 uo13 kp14=>?_
   have kk15:=hkp.next kp14 hw2.size
   have hw3:UpdW lb w v11:=hw2.updO uo13 (fun p hp=>(ow8.block p hp).1) (fun p cs t fr hp h=>Or.inr (kept_typ hO hkp p cs t fr hp h))
   refine pf g 0 rfl (by kernel_rfl) (pf g 4 rfl (by kernel_rfl) ?_)
   have hb17:=((b_g.ext e7).updO uo13 (own_ne ow8 (b_g.ext e7) (by decide)))
   refine wl_stored1 rfl rfl rfl (fun _=>by kernel_rfl) rfl hb17 (bq rfl) rfl [.int .i64 (base:Int),.int .i64 (k:Int),.int .u64 (unit:Int),.slice PA pn pc,.slice A9 (ob+1) c10] rfl fun v16 hb18 u19 hs20=>?_
   have hw4:UpdW lb w v16:=hw3.upd u19 hgl (fun _ _ _ h=>Or.inl (bk_typ hW h))
   refine wl_nil (eo_block_normal (eo_then (cw_region (mv 1 rfl (wl_ar rfl rfl rfl ((nn-1:Nat):Int) (ai_sub (a:=nn) (b:=1) rfl rfl (by omega) (by omega)) (by decide) (mv 1 rfl (wl_nil (eo_round (⟨v16,nn-1,z+1,A9,ob+1,c10⟩:World×Nat×Nat×Option Addr×Nat×Nat) ⟨hw4,(by omega),(by omega),(by omega),hb18,(by rw [rep_snoc];exact (ho12.updT hb17 (by decide) u19)),kk15,(((hP2.ext e7).updOT ow8 (by decide) uo13).updT hb17 (by decide) u19),(Nat.le_trans hlb3 ((Nat.le_trans (Nat.le_trans e7.size uo13.size) u19.by_.size)))⟩ (show nn-1<nn by omega) rfl ⟨rfl,rfl,rfl,rfl,rfl,trivial⟩))))))))
  · 
   refine cw_region (mv 3 rfl (pf g 0 rfl (by kernel_rfl) (pf g 1 rfl (by kernel_rfl) (wl_load rfl rfl (load_cell (fun _=>by kernel_rfl) b_g rfl) (by decide) (wl_ar rfl rfl rfl ((pn2*k:Nat):Int) (ar_i64 (by omega) (by omega) (by omega)) (by decide) (wl_mm rfl rfl rfl (((pn2*k:Nat):Int)) (by omega) (by decide) (wl_cmp rfl rfl rfl false (cb_gt_f (a:=nn) (b:=pn2*k) rfl rfl (by omega)) (by decide) (ne_ (cw_false rfl (cw_exit (eo_thenX (eo_loopX (eo_block_here ?_)))))))))))))
   refine eo_then (cw_seq ?_)
   have hzf:z=width-pn2*k:=by omega
   refine cw_region (mv 1 rfl (pu (v:= .int .i64 ((pn2:Nat):Int)) rfl (by kernel_rfl) (wl_ar rfl rfl rfl (((pn2:Nat):Int)-1) (ar_i64s rfl (by omega) (by omega)) (by decide) (mv 1 rfl (ne_ (cw_block ?_))))))
   refine cw_loop (T:=World×Nat×Int×Option Addr×Nat×Nat)
    (fun⟨wt,j,ii,OD,od,oc3⟩=> [(0,.pointer (some ⟨g,0,none⟩)),(2,.int .i64 ((width:Nat):Int)),(6,.slice PA2 pn2 pc2),(10,.int .i64 (((pn2*k:Nat):Int)-(k:Int))),(12,.int .i64 ii)])
    (fun⟨wt,j,ii,OD,od,oc3⟩=>wt)
    (fun⟨wt,j,ii,OD,od,oc3⟩=>(UpdW lb w wt)∧(j≤pn2)∧(ii=(j:Int)-1)∧(od≤on+width+(pn2-j)*64)∧(Bk wt g 141 [.int .i64 (base:Int),.int .i64 (k:Int),.int .u64 (unit:Int),.slice PA pn pc,.slice OD od oc3])∧(Own wt lb 5 1 OD od oc3 ((bs++List.replicate (width-pn2*k) 48++txt (catd base k (min (width+k-pn2*k) k) (ps.drop j))).map B8))∧(Kept w OA OD)∧(Own wt lb2 67 1 PA2 pn2 pc2 (ps.map W64)))
    (fun⟨wt,j,ii,OD,od,oc3⟩=>j)
    (⟨wz,pn2,_,OB,ob,oc2⟩:World×Nat×Int×Option Addr×Nat×Nat) ⟨hw1,(Nat.le_refl _),rfl,(by omega),b_g,(by rw [List.drop_of_length_le (by omega),show catd base k (min (width+k-pn2*k) k) []= [] from rfl,←hzf];simpa [txt] using (hO2)),hkp,hP2⟩ rfl ⟨rfl,rfl,rfl,rfl,rfl,trivial⟩ ?_
   rintro⟨wt,j,ii,OD,od,oc3⟩ ⟨hw1,hj,hii,hob2,b_g,hO3,hkp,hP3⟩
   refine cw_re [(0,.pointer (some ⟨g,0,none⟩)),(2,.int .i64 ((width:Nat):Int)),(6,.slice PA2 pn2 pc2),(10,.int .i64 (((pn2*k:Nat):Int)-(k:Int))),(12,.int .i64 ii)] wt rfl ⟨rfl,rfl,rfl,rfl,rfl,trivial⟩ (cw_seq (cw_seq ?_))
   by_cases hj0:0<j
   · 
    obtain⟨q,rfl⟩:∃q,j=q+1:=⟨j-1,by omega⟩
    obtain rfl:ii=(q:Int):=by omega
    have hxq:ps.getD q 0≤18446744073709551615:=by have:=psW q;omega
    refine cw_region (mv 1 rfl (wl_cmp rfl rfl rfl true (ge_t (by omega)) (by decide) (ne_ (cw_true rfl (cw_skip (eo_then (cw_seq (cw_block (sr (mv 1 rfl (pf g 0 rfl (by kernel_rfl) (pf g 1 rfl (by kernel_rfl) (wl_load rfl rfl (load_cell (fun _=>by kernel_rfl) b_g rfl) (by decide) ?_)))))))))))))
    refine mv 1 rfl (ne_ (cw_seq (cw_seq ?_)))
    by_cases htop:q+1=pn2
    · 
     refine cw_region (mv 2 rfl (pu (v:= .int .i64 ((pn2:Nat):Int)) rfl (by kernel_rfl) (wl_ar rfl rfl rfl (((pn2:Nat):Int)-1) (ar_i64s rfl (by omega) (by omega)) (by decide) (wl_cmp rfl rfl rfl true (eq_t (by omega)) (by decide) (ne_ (cw_true rfl (cw_region (mv 2 rfl (wl_ar rfl rfl rfl (((width:Nat):Int)-(((pn2*k:Nat):Int)-(k:Int))) (ar_i64s rfl (by have:=hkk.le64;omega) (by have:=hkk.le64;omega)) (by decide) (wl_mm rfl rfl rfl (((width+k-pn2*k:Nat):Int)) (by omega) (by decide) (mv 1 rfl (pf g 0 rfl (by kernel_rfl) (pf g 1 rfl (by kernel_rfl) ?_)))))))))))))
     refine wl_load rfl rfl (load_cell (fun _=>by kernel_rfl) b_g rfl) (by decide) (wl_mi rfl rfl rfl (((min (width+k-pn2*k) k:Nat):Int)) (by omega) (by decide) (mv 1 rfl (ne_ (cw_region (mv 3 rfl ?_)))))
     obtain⟨pw,hpw,hcw,hvw⟩:=((hP3).rd psWf).at (i:=q) (by omega)
     refine wl_idx rfl rfl rfl un_u64 sz_u64 q rfl (by omega) pw hpw (by decide) (wl_load rfl rfl (load_cell1 ag_u64 hcw) (by decide) (mv 1 rfl (wl_call rfl rfl (vs:= [.pointer (some ⟨g,0,none⟩),.int .u64 ((ps.getD q 0:Nat):Int),.int .i64 ((min (width+k-pn2*k) k:Nat):Int)]) (by kernel_rfl) (by decide) (rx_word (hw1.signs hS hgS) hgS hbl hbu b_g hO3 hgl (Nat.le_trans hlb hw1.size) hxq (by have:=hkk.le64;omega) (by have:=hkk.le64;omega)) ?_)))
     rintro _ v21 ⟨rfl,A23,n24,c25,hb26,ho27,uw28,kp29⟩
     refine ret_intro ?_
     have hw2:UpdW lb w v21:=hw1.then uw28
     have kk30:=hkp.next kp29 hw1.size
     have hobn:n24≤on+width+(pn2-q)*64:=by have h1:=(own_len ho27).symm;have h2:=own_len ho27;rw [h2,List.length_append,txt_len,len_padTo,←own_len hO3];have h3:(db base (ps.getD q 0)).length≤64:=len_db_le hbl (Nat.lt_of_lt_of_le (show ps.getD q 0<2^64 by omega) (Nat.pow_le_pow_left hbl 64));have:=hkk.le64;omega
     have hcont:bs++List.replicate (width-pn2*k) 48++txt (catd base k (min (width+k-pn2*k) k) (ps.drop (q+1)))++txt (padTo (db base (ps.getD q 0)) (min (width+k-pn2*k) k))=bs++List.replicate (width-pn2*k) 48++txt (catd base k (min (width+k-pn2*k) k) (ps.drop q)):=by rw [drop_getD (by omega:q<ps.length),catd_cons,txt_app,List.append_assoc,if_pos (List.drop_of_length_le (by omega))]
     refine wl_nil (eo_block_normal (eo_then (cw_region (mv 1 rfl (wl_ar rfl rfl rfl (((q:Nat):Int)-1) (ar_i64s rfl (by omega) (by omega)) (by decide) (mv 1 rfl (wl_nil (eo_round (⟨v21,q,(q:Int)-1,A23,n24,c25⟩:World×Nat×Int×Option Addr×Nat×Nat) ⟨hw2,(by omega),rfl,hobn,hb26,(hcont▸(ho27)),kk30,(uw28.own hP3 (by decide) (by decide))⟩ (show q<q+1 by omega) rfl ⟨rfl,rfl,rfl,rfl,rfl,trivial⟩))))))))
    · 
     refine cw_region (mv 2 rfl (pu (v:= .int .i64 ((pn2:Nat):Int)) rfl (by kernel_rfl) (wl_ar rfl rfl rfl (((pn2:Nat):Int)-1) (ar_i64s rfl (by omega) (by omega)) (by decide) (wl_cmp rfl rfl rfl false (eq_f (by omega)) (by decide) (ne_ (cw_false rfl (cw_skip (eo_then (cw_region (mv 3 rfl ?_))))))))))
     obtain⟨pw,hpw,hcw,hvw⟩:=((hP3).rd psWf).at (i:=q) (by omega)
     refine wl_idx rfl rfl rfl un_u64 sz_u64 q rfl (by omega) pw hpw (by decide) (wl_load rfl rfl (load_cell1 ag_u64 hcw) (by decide) (mv 1 rfl (wl_call rfl rfl (vs:= [.pointer (some ⟨g,0,none⟩),.int .u64 ((ps.getD q 0:Nat):Int),.int .i64 ((k:Nat):Int)]) (by kernel_rfl) (by decide) (rx_word (hw1.signs hS hgS) hgS hbl hbu b_g hO3 hgl (Nat.le_trans hlb hw1.size) hxq (by have:=hkk.le64;omega) (by have:=hkk.le64;omega)) ?_)))
     rintro _ v31 ⟨rfl,A33,n34,c35,hb36,ho37,uw38,kp39⟩
     refine ret_intro ?_
     have hw2:UpdW lb w v31:=hw1.then uw38
     have kk40:=hkp.next kp39 hw1.size
     have hobn:n34≤on+width+(pn2-q)*64:=by have h1:=(own_len ho37).symm;have h2:=own_len ho37;rw [h2,List.length_append,txt_len,len_padTo,←own_len hO3];have h3:(db base (ps.getD q 0)).length≤64:=len_db_le hbl (Nat.lt_of_lt_of_le (show ps.getD q 0<2^64 by omega) (Nat.pow_le_pow_left hbl 64));have:=hkk.le64;omega
     have hcont:bs++List.replicate (width-pn2*k) 48++txt (catd base k (min (width+k-pn2*k) k) (ps.drop (q+1)))++txt (padTo (db base (ps.getD q 0)) k)=bs++List.replicate (width-pn2*k) 48++txt (catd base k (min (width+k-pn2*k) k) (ps.drop q)):=by rw [drop_getD (by omega:q<ps.length),catd_cons,txt_app,List.append_assoc,if_neg (fun e=>by have:=congrArg List.length e;rw [List.length_drop] at this;simp only [List.length_nil] at this;omega)]
     refine wl_nil (eo_block_normal (eo_then (cw_region (mv 1 rfl (wl_ar rfl rfl rfl (((q:Nat):Int)-1) (ar_i64s rfl (by omega) (by omega)) (by decide) (mv 1 rfl (wl_nil (eo_round (⟨v31,q,(q:Int)-1,A33,n34,c35⟩:World×Nat×Int×Option Addr×Nat×Nat) ⟨hw2,(by omega),rfl,hobn,hb36,(hcont▸(ho37)),kk40,(uw38.own hP3 (by decide) (by decide))⟩ (show q<q+1 by omega) rfl ⟨rfl,rfl,rfl,rfl,rfl,trivial⟩))))))))
   · 
    refine cw_region (mv 1 rfl (wl_cmp rfl rfl rfl false (ge_f (by omega)) (by decide) (ne_ (cw_false rfl (cw_exit (eo_thenX (eo_loopX (eo_block_here (eo_end [] rfl trivial ?_)))))))))
    have hj00:j=0:=by omega
    have hall:bs++List.replicate (width-pn2*k) 48++txt (catd base k (min (width+k-pn2*k) k) (ps.drop j))=bs++txt (padTo (db base m) width):=by rw [hj00,List.drop_zero,List.append_assoc,←hdbm,hun,plain_all hbl hk1 (hun▸hu2) (by rw [←hun,hdbm,hpl])]
    exact⟨rfl,OD,_,_,b_g,hall▸(hO3),hw1,hkp⟩
 · 
  have hbl0:blen mm≠0:=fun e=>hm0 (blen_eq_zero.1 e)
  have hdb1:=db_pos hu2 hm0
  have hqb:(wd (mm/unit)).length≤4194304:=Nat.le_trans (len_wd_mono (Nat.le_trans (Nat.div_le_self _ _) hms)) hml
  have hpq2:=len_db_small hu2 hml
  have hpq:ps.length<(db unit m).length:=by rw [hdb,hdb1,List.length_append,List.length_cons];omega
  refine cw_region (mv 1 rfl (wl_call rfl rfl (vs:= [.slice QA qn qc]) (by kernel_rfl) (by decide) (rx_BitLen hq (by omega)) ?_))
  rintro _ v41 ⟨xr43,rfl,r43,e42⟩
  refine ret_intro ?_
  have hw2:UpdW lb w v41:=hw1.trans e42
  have hx2:Ext w v41:=hx1.trans e42
  obtain rfl:=r43
  refine wl_cmp rfl rfl rfl true (cb_gt_t (a:=blen mm) (b:=0) rfl rfl (by omega)) (by decide) (ne_ (cw_true rfl (cw_skip (eo_then (cw_block (sr (mv 2 rfl (pf g 0 rfl (by kernel_rfl) (pf g 2 rfl (by kernel_rfl) (wl_load rfl rfl (load_cell (fun _=>by kernel_rfl) (hW.ext (hx1.trans e42)) rfl) (by decide) ?_))))))))))
  have hbp:=((hP.ext e42)).block
  refine wl_call rfl rfl (vs:= [.slice QA qn qc,.int .u64 ((unit:Nat):Int)]) (by kernel_rfl) (by decide) (rx_Word (hq.ext e42) (by omega) (by omega) hum) ?_
  rintro _ v44 ⟨xr46,rfl,r46,e45⟩
  refine ret_intro ?_
  have hw3:UpdW lb w v44:=hw2.trans e45
  have hx3:Ext w v44:=hx2.trans e45
  obtain⟨_,_,_,rfl,⟨A48,n48,c48,rfl,j48,o48⟩,r47_1,r47_2⟩:=r46
  have hdis:∀p q,PA2=some p→A48=some q→p.block≠q.block:=fun p q hp hq=>by have:=(hbp p hp).2;have:=(o48.block q hq).1;omega
  obtain rfl:=r47_1
  obtain rfl:=r47_2
  refine mv 1 rfl (pu (v:= .slice A48 n48 c48) rfl (by kernel_rfl) (pu (v:= .int .u64 ((mm%unit:Nat):Int)) rfl (by kernel_rfl) (pu (v:= .int .i64 0) rfl (by kernel_rfl) (mv 3 rfl (ne_ (sr (mv 2 rfl (wl_bslice rfl rfl (by decide) (k:=1) (e:=67) [.int .u64 ((mm%unit:Nat):Int)] (fun _=>by kernel_rfl) fun g49 v50 nb=>?_))))))))
  have hb51:=nb.bk
  have e52:=nb.ext
  clear nb
  have hw4:UpdW lb w v50:=hw3.trans e52
  have hx4:Ext w v50:=hx3.trans e52
  have ow53:=(hP.ext (e42.trans (e45.trans e52)))
  refine wl_app rfl rfl rfl un_u64 info64 rfl (by decide) (by decide) ow53 (Nat.le_trans hlb2 ((Nat.le_trans (Nat.le_trans e42.size e45.size) e52.size))) [.int .u64 ((mm%unit:Nat):Int)] rfl (one_news _ hb51) rfl (by omega) (by decide) fun A54 c55 v56 ho57 uo58 kp59=>?_
  have hx5:Ext w v56:=uo58.ext hx4 (fun p hp=>by have:=ow53.block p hp;omega)
  have hw5:UpdW lb w v56:=(UpdW.refl lb w).trans hx5
  refine mv 1 rfl (ne_ (cw_region (mv 2 rfl (wl_nil (eo_block_normal (eo_round (⟨v56,A48,n48,c48,mm/unit,A54,pn2+1,c55,ps++ [mm%unit]⟩:World×Option Addr×Nat×Nat×Nat×Option Addr×Nat×Nat×List Nat) ⟨hw5,hx5,(Nat.le_trans hlb2 ((Nat.le_trans (Nat.le_trans (Nat.le_trans e42.size e45.size) e52.size) uo58.size))),(by rw [hdb,hdb1,List.append_assoc];rfl),(by rw [List.length_append,hpl];rfl),((o48.ext e52).updO uo58 hdis).wi,(by rw [j48];exact hqb),(by rw [List.map_append];exact ho57),(Nat.le_trans (Nat.div_le_self _ _) hms)⟩ (Nat.div_lt_self (by omega) (by omega)) rfl ⟨rfl,rfl,rfl,rfl,trivial⟩))))))
def txtN (b m:Nat):List Nat:=if m=0 then [48] else txt (db b m)
theorem push_foldl:∀(ns:List Nat) (r:ByteArray),(ns.map fun x:Nat=>(x:Int)).foldl (fun r n=>r.push (UInt8.ofNat n.toNat)) r=⟨r.data++(ns.map UInt8.ofNat).toArray⟩
 | [],r=>by simp
 | n::ns,r=>by
  rw [List.map_cons,List.foldl_cons,push_foldl ns]
  simp [ByteArray.push,Array.push]
theorem run_toStr {P:Program}{w:World}{lb:Nat}{T:TypeId}{A:Option Addr}{n c:Nat}{bs:List Nat}(h:Own w lb T 1 A n c (bs.map B8)):(Conv.bytesToString (.slice A n c)).run P w= .ok (.string (strB bs)) w:=by
 cases A with
 | none=>
  rcases h with⟨_,_,_,h⟩ | ⟨g,cs,hA,_⟩
  ·rw [List.map_eq_nil_iff] at h;subst h;rfl
  ·cases hA
 | some a=>
  have hn:=own_len h
  have hl:=run_loadCells (P:=P) (w:=w) (p:=a) (bs.map B8) 0 #[] (fun j hj=>by
   rw [List.length_map] at hj
   obtain⟨a',ha,hc⟩:=h.rv.get j (by omega)
   cases ha
   rw [Nat.zero_add];exact hc)
  have hr:=run_bytesToString (P:=P) w a n c (bs.map fun x:Nat=>(x:Int)) (by
   rw [List.length_map,←hn] at hl
   unfold loadCells
   rw [hl]
   congr 1
   simp [B8,Function.comp_def])
  rw [hr,push_foldl]
  rw [show ByteArray.empty.data= #[] from rfl,Array.empty_append]
  rfl
theorem wl_toStr {Q:Exit→Act→World→Prop}{n:Nat}{l:Fr}{w:World}{ops:Array Oper}{rest:List Oper}{d:Nat}{ty:TypeId}{pos:String}{af:Array Edge}{gd:Option (Nat×Bool)}{x:Operand}{lb k c:Nat}{T:TypeId}{A:Option Addr}{bs:List Nat}(hw:guardB ops l gd=some true)
  (hx:evo l x=some (.slice A k c)) (ho:Own w lb T 1 A k c (bs.map B8)) (hn:d<n) (h:wl Tryz.prog ops Q n rest ((d,.string (strB bs))::l) w):wl Tryz.prog ops Q n (⟨some d,.convert 139 9 x,ty,pos,af,gd⟩::rest) l w:=by
 refine wl_val hw hn (fun a' ha=>?_) h
 have e:(convert 139 9 (a'.eval x)).run Tryz.prog w= .ok (.string (strB bs)) w:=by
  rw [ha.ev hx]
  have h1:(underlying 139).run Tryz.prog w= .ok (.slice 5) w:=run_underlying un_u8 w
  have h2:(underlying 9).run Tryz.prog w= .ok .string w:=run_underlying Tryz.underlying9 w
  have h3:(underlying 5).run Tryz.prog w= .ok (.int .u8) w:=run_underlying Tryz.underlying5 w
  unfold convert
  simp only [Sem.run_bind,h1,h2,h3,Result.andThen_ok]
  exact run_toStr ho
 show ((convert 139 9 (a'.eval x)>>=fun r=>pure (Next.value r):Sem Next)).run Tryz.prog w=_
 rw [Sem.run_bind,e];rfl
theorem strB_add (a b:List Nat):strB a++strB b=strB (a++b):=by
 unfold strB
 rw [ByteArray.mk_append_mk,List.map_append]
theorem strB_size (a:List Nat):(strB a).size=a.length:=by simp [strB,ByteArray.size]
theorem str_add {P:Program}{w:World}{t:TypeId}{a b:List Nat}(h:a.length+b.length≤1099511627776):(binOp .add t (.string (strB a)) (.string (strB b))).run P w= .ok (.string (strB (a++b))) w:=by
 have h1:=run_string_add_sum (P:=P) w (strB a) (strB b) (by rw [strB_size,strB_size];omega)
 rw [strB_add] at h1
 simp [binOp,h1]
theorem g_nat_LeastW {w:World}{A:Option Addr}{n c m:Nat}(hx:Wi w A n c m) (hl:n≤1099511627776):Calls Tryz.prog 115 #[.slice A n c] w (Gv w (WR w.heap.size m)):=by
 obtain⟨xs,h1,rfl⟩:=hx
 exact (nat_Least h1 hl).mono (gw (Nat.le_refl _))
theorem txtN_len {b m n:Nat}(hb:2≤b) (h:(wd m).length≤n):(txtN b m).length≤64*n+1:=by
 unfold txtN
 split
 ·simp
 ·rw [txt_len];have:=len_db_small hb h;omega
def txtZ (x:Int):List Nat:=if x<0 then [45]++txtN 10 x.natAbs else txtN 10 x.natAbs
set_option maxHeartbeats 4000000 in
theorem rx_halves_low {w:World}{g base k unit:Nat}{PA:Option Addr}{pn pc:Nat}{OA:Option Addr}{on oc lb:Nat}{bs:List Nat}(hS:Signs w) (hgS:3<lb) (hbl:2≤base) (hbu:base≤36) (hW:Wr w g base k unit PA pn pc OA on oc) (hO:Own w lb 5 1 OA on oc (bs.map B8)) (hgl:lb≤g) (hlb:lb≤w.heap.size){A:Option Addr}{an ac m width:Nat}(ha:Wi w A an ac m) (hal:an≤4194304) (hun:unit=base^k) (hkk:PieceK base k) (hwd:width≤137438953472) (hon:on≤137438953472):
    Calls Tryz.prog 172 #[.pointer (some ⟨g,0,none⟩),.slice A an ac,.int .i64 (-1),.int .i64 ((width:Nat):Int)] w (WrP w lb g base k unit PA pn pc OA (bs++txt (padTo (db base m) width))):=by
 refine sx_enter Tryz.func172 rfl (n:=74) rfl (bq rfl) (args:= [.pointer (some ⟨g,0,none⟩),.slice A an ac,.int .i64 (-1),.int .i64 ((width:Nat):Int)]) (cw_keep [(0,.pointer (some ⟨g,0,none⟩)),(1,.slice A an ac),(2,.int .i64 (-1)),(3,.int .i64 ((width:Nat):Int))] ⟨rfl,rfl,rfl,rfl,trivial⟩ (cw_seq (sr (mv 1 rfl (wl_cmp rfl rfl rfl true (by decide) (by decide) (mv 4 rfl (pu (v:= .bool true) rfl (by kernel_rfl) (ne_ (cw_true rfl (sr (mv 3 rfl (wl_call rfl rfl (vs:= [.pointer (some ⟨g,0,none⟩),.slice A an ac,.int .i64 ((width:Nat):Int)]) (by kernel_rfl) (by decide) (rx_plain hS hgS hbl hbu hW hO hgl (Nat.le_trans hlb (UpdW.refl lb w).size) ha hal hun hkk hwd hon) ?_))))))))))))
 rintro _ v1 ⟨rfl,A2,n3,c4,hb5,ho6,uw7,kp8⟩
 refine ret_intro ?_
 have hw1:UpdW lb w v1:=(UpdW.refl lb w).then uw7
 have kk9:=(Kept.refl w OA).next kp8 (UpdW.refl lb w).size
 refine ne_ (cw_ret (eo_thenR (eo_ret [] rfl trivial ?_)))
 exact⟨rfl,A2,_,_,hb5,ho6,hw1,kk9⟩
set_option maxHeartbeats 4000000 in
theorem rx_Text_low {w:World}{A:Option Addr}{an ac m base:Nat}(hS:Signs w) (hx:Wi w A an ac m) (hal:an≤4194304) (hbl:2≤base) (hbu:base≤36) (hl12:(wd m).length≤12):
    Calls Tryz.prog 140 #[.slice A an ac,.int .i64 ((base:Nat):Int)] w (Gv w (T2 (Is (.string (strB (txtN base m)))) (Is (.int .i64 0)))):=by
 refine sx_enter Tryz.func140 rfl (n:=73) rfl (bq rfl) (args:= [.slice A an ac,.int .i64 ((base:Nat):Int)]) (cw_keep [(0,.slice A an ac),(1,.int .i64 ((base:Nat):Int))] ⟨rfl,rfl,trivial⟩ (sr (mv 2 rfl (ne_ (cw_seq (sr (mv 1 rfl (wl_cmp rfl rfl rfl false (cb_lt_f (a:=base) (b:=2) rfl rfl (by omega)) (by decide) (mv 2 rfl (wl_cmp rfl rfl rfl false (cb_gt_f (a:=base) (b:=36) rfl rfl (by omega)) (by decide) (pu (v:= .bool false) rfl (by kernel_rfl) (ne_ (cw_false rfl ?_)))))))))))))
 refine cw_skip (eo_then (sr (mv 1 rfl (cl (vs:= [.slice A an ac]) (Ext.refl w) (g_nat_LeastW (hx.ext (Ext.refl w)) (by omega)) rfl (by kernel_rfl) fun xr3 v1 r3 e2 hw1=>?_))))
 obtain⟨A4,n4,c4,rfl,j4,o4⟩:=r3
 refine mv 1 rfl (ne_ (cw_seq (cw_seq ?_)))
 by_cases hz0:n4=0
 · 
  have hm0:m=0:=len_wd_zero.1 (by omega)
  refine cw_region (mv 1 rfl (pu (v:= .int .i64 ((n4:Nat):Int)) rfl (by kernel_rfl) (wl_cmp rfl rfl rfl true (cb_eq_t (a:=n4) (b:=0) rfl rfl (by omega)) (by decide) (ne_ (cw_true rfl (sr (mv 2 rfl (ne_ (cw_ret (eo_thenR (eo_ret [.string (strB ([48])),I0] rfl ⟨rfl,rfl,trivial⟩ ?_)))))))))))
  have hstr:([48]:List Nat)=txtN base m:=by subst hm0;rfl
  exact⟨_,rfl,⟨_,_,rfl,(show Value.string _=Value.string _ from congrArg (fun l=>Value.string (strB l)) hstr),rfl⟩,hw1⟩
 · 
  have hm0:m≠0:=fun e=>hz0 (by rw [j4,e];rfl)
  refine cw_region (mv 1 rfl (pu (v:= .int .i64 ((n4:Nat):Int)) rfl (by kernel_rfl) (wl_cmp rfl rfl rfl false (cb_eq_f (a:=n4) (b:=0) rfl rfl (by omega)) (by decide) (ne_ (cw_false rfl (cw_skip (eo_then (sr (mv 1 rfl (wl_call rfl rfl (vs:= [.int .i64 ((base:Nat):Int)]) (by kernel_rfl) (by decide) (rx_piece hbl hbu) ?_))))))))))
  rintro _ v5 ⟨k8,p9,xr7,rfl,r7,e6⟩
  refine ret_intro ?_
  have hw2:=hw1.trans e6
  obtain⟨_,_,rfl,rfl,rfl⟩:=r7
  refine mv 1 rfl (pu (v:= .int .i64 ((k8:Nat):Int)) rfl (by kernel_rfl) (pu (v:= .int .u64 ((base^k8:Nat):Int)) rfl (by kernel_rfl) (mv 2 rfl (ne_ (sr (mv 3 rfl (pu (v:= .agg #[.int .i64 ((base:Nat):Int),.int .i64 ((k8:Nat):Int),.int .u64 ((base^k8:Nat):Int),S0,S0]) rfl (by kernel_rfl) (wl_box rfl rfl (vs:= [.int .i64 ((base:Nat):Int),.int .i64 ((k8:Nat):Int),.int .u64 ((base^k8:Nat):Int),S0,S0]) rfl (by decide) fun g11 v12 nb=>?_))))))))
  have hgl:=Nat.le_of_eq nb.at_
  have hle0:w.heap.size≤v5.heap.size:=hw2.size
  have hb14:=nb.bk
  have ge15:w.heap.size≤g11:=by rw [←nb.at_];exact hw2.size
  have e13:=nb.ext
  clear nb
  have hw3:=hw2.trans e13
  refine mv 1 rfl (ne_ (cw_seq (sr (mv 1 rfl (pu (v:= .int .i64 ((n4:Nat):Int)) rfl (by kernel_rfl) (wl_cmp rfl rfl rfl false (cb_gt_f (a:=n4) (b:=12) rfl rfl (by omega)) (by decide) (ne_ (cw_false rfl (cw_skip (eo_then (sr (mv 3 rfl (pf g11 0 rfl (by kernel_rfl) ?_)))))))))))))
  refine pf g11 3 rfl (by kernel_rfl) (wl_load rfl rfl (load_cell (fun _=>by kernel_rfl) hb14 rfl) (by decide) (pu (v:= .int .i64 0) rfl (by kernel_rfl) (wl_ar rfl rfl rfl (-1) (ar_i64s rfl (by decide) (by decide)) (by decide) (wl_call rfl rfl (vs:= [.pointer (some ⟨g11,0,none⟩),.slice A4 n4 c4,.int .i64 (-1),I0]) (by kernel_rfl) (by decide) (rx_halves_low (lb:=v5.heap.size) (bs:= []) (hS.ext hw3) (Nat.lt_of_lt_of_le (World.block_lt_of_cell? w _ (hS 0 (by decide))) hle0) hbl hbu hb14 (Own.nil _ _ _ _) hgl (e13.size) (o4.ext (e6.trans e13)).wi (by omega) rfl p9 (by decide) (by decide)) ?_))))
  rintro _ v16 ⟨rfl,A17,n18,c19,hb20,ho21,uw22,kp23⟩
  refine ret_intro ?_
  have hw4:=uw22.ext hw3 hle0
  refine ne_ (sr (mv 1 rfl (pf g11 0 rfl (by kernel_rfl) (pf g11 4 rfl (by kernel_rfl) (wl_load rfl rfl (load_cell (fun _=>by kernel_rfl) hb20 rfl) (by decide) (wl_toStr rfl rfl ho21 (by decide) (mv 2 rfl (ne_ (cw_ret (eo_ret [.string (strB ([]++txt (padTo (db base m) 0))),I0] rfl ⟨rfl,rfl,trivial⟩ ?_))))))))))
  have hstr:([]++txt (padTo (db base m) 0):List Nat)=txtN base m:=by rw [List.nil_append,padTo_of (Nat.zero_le _),txtN,if_neg hm0]
  exact⟨_,rfl,⟨_,_,rfl,(show Value.string _=Value.string _ from congrArg (fun l=>Value.string (strB l)) hstr),rfl⟩,hw4⟩
set_option maxHeartbeats 4000000 in
theorem rx_Dec {w:World}{A:Option Addr}{an ac m:Nat}(hS:Signs w) (hx:Wi w A an ac m) (hal:an≤4194304) (hl12:(wd m).length≤12):
    Calls Tryz.prog 100 #[.slice A an ac] w (Gv w (Is (.string (strB (txtN 10 m))))):=by
 refine sx_enter Tryz.func100 rfl (n:=11) rfl (bq rfl) (args:= [.slice A an ac]) (cw_keep [(0,.slice A an ac)] ⟨rfl,trivial⟩ (sr (mv 1 rfl (ne_ (sr (mv 1 rfl (cl (vs:= [.slice A an ac,.int .i64 10]) (Ext.refl w) (rx_Text_low (base:=10) (hS.ext (Ext.refl w)) hx (by omega) (by decide) (by decide) hl12) rfl (by kernel_rfl) fun xr3 v1 r3 e2 hw1=>?_)))))))
 obtain⟨_,_,rfl,rfl,rfl⟩:=r3
 refine mv 1 rfl (pu (v:= .string (strB (txtN 10 m))) rfl (by kernel_rfl) (pu (v:= .int .i64 0) rfl (by kernel_rfl) (mv 2 rfl (ne_ (sr (mv 2 rfl (ne_ (cw_ret (eo_ret [.string (strB (txtN 10 m))] rfl ⟨rfl,trivial⟩ ?_)))))))))
 exact⟨_,rfl,rfl,hw1⟩
set_option maxHeartbeats 4000000 in
theorem rx_zText {w:World}{sa:Bool}{Aa:Option Addr}{na ca:Nat}{x:Int}(hx:Zi w sa Aa na ca x) (la:na≤4194304) (hS:Signs w) (hl12:(wd x.natAbs).length≤12):
    Calls Tryz.prog 29 #[.agg #[.bool sa,.slice Aa na ca]] w (Gv w (Is (.string (strB (txtZ x))))):=by
 have Lx:ln x≤4194304:=Nat.le_trans hx.ln la
 refine sx_enter Tryz.func29 rfl (n:=13) rfl (bq rfl) (args:= [.agg #[.bool sa,.slice Aa na ca]]) (cw_keep [(0,.agg #[.bool sa,.slice Aa na ca])] ⟨rfl,trivial⟩ (sr (bx [.bool sa,.slice Aa na ca] (Ext.refl w) rfl rfl rfl fun g1 v2 hb4 ge5 e3 hw1=>(mv 1 rfl (ne_ (sr (pf g1 1 rfl (by kernel_rfl) (wl_load rfl rfl (load_cell cellWords hb4 rfl) (by decide) (cl (vs:= [.slice Aa na ca]) hw1 (rx_Dec (hS.ext hw1) (hx.ext hw1).wi (by omega) hl12) rfl (by kernel_rfl) fun xr8 v6 r8 e7 hw2=>?_)))))))))
 obtain rfl:=r8
 refine mv 1 rfl (ne_ (cw_seq (cw_seq ?_)))
 by_cases hx0:x<0
 · 
  refine cw_region (lo aggInt (hb4.ext e7) [.bool sa,.slice Aa na ca] rfl rfl rfl (cl (vs:= [.agg #[.bool sa,.slice Aa na ca]]) hw2 (g_zint_Sign (hx.ext hw2) (lx_ la rfl)) rfl (by kernel_rfl) fun xr11 v9 r11 e10 hw3=>?_))
  obtain rfl:=r11
  refine wl_cmp rfl rfl rfl true (scmp_lt_t hx0) (by decide) (ne_ (cw_true rfl (sr (mv 1 rfl (wl_op rfl rfl rfl (r:= .string (strB (([45])++(txtN 10 (Int.natAbs x))))) rfl (fun w=>str_add (a:= [45]) (b:=txtN 10 (Int.natAbs x)) (by have:=txtN_len (b:=10) (by decide) hl12;show 1+_≤_;omega)) (by decide) (mv 1 rfl (ne_ (cw_ret (eo_thenR (eo_ret [.string (strB (([45])++(txtN 10 (Int.natAbs x))))] rfl ⟨rfl,trivial⟩ ?_))))))))))
  exact⟨_,rfl,(show Value.string _= .string (strB (txtZ x)) by rw [txtZ,if_pos hx0]),hw3⟩
 · 
  refine cw_region (lo aggInt (hb4.ext e7) [.bool sa,.slice Aa na ca] rfl rfl rfl (cl (vs:= [.agg #[.bool sa,.slice Aa na ca]]) hw2 (g_zint_Sign (hx.ext hw2) (lx_ la rfl)) rfl (by kernel_rfl) fun xr14 v12 r14 e13 hw3=>?_))
  obtain rfl:=r14
  refine wl_cmp rfl rfl rfl false (scmp_lt_f (by omega)) (by decide) (ne_ (cw_false rfl (cw_skip (eo_then (sr (mv 2 rfl (ne_ (cw_ret (eo_ret [.string (strB (txtN 10 (Int.natAbs x)))] rfl ⟨rfl,trivial⟩ ?_)))))))))
  exact⟨_,rfl,(show Value.string _= .string (strB (txtZ x)) by rw [txtZ,if_neg hx0]),hw3⟩
theorem snocRecR {α:Type}{p:List α→Prop}(nil:p []) (snoc:∀r a,p r→p (r++ [a])) (l:List α):p l:=by
 have h:∀r:List α,p r.reverse:=by
  intro r
  induction r with
  | nil=>exact nil
  | cons a r ih=>rw [List.reverse_cons];exact snoc _ _ ih
 have:=h l.reverse
 rwa [List.reverse_reverse] at this
theorem strB_get {bs:List Nat}(hb:∀b,b∈bs→b<256){i:Nat}(hi:i<bs.length) (h:i<(strB bs).size):((strB bs)[i]'h).toNat=bs.getD i 0:=by
 have e:(strB bs)[i]'h=UInt8.ofNat (bs.getD i 0):=by
  show ((bs.map UInt8.ofNat).toArray)[i]'(by simpa using hi)=_
  rw [List.getElem_toArray,List.getElem_map,List.getD_eq_getElem?_getD,List.getElem?_eq_getElem hi];rfl
 rw [e,UInt8.toNat_ofNat']
 refine Nat.mod_eq_of_lt ?_
 rw [List.getD_eq_getElem?_getD,List.getElem?_eq_getElem hi]
 exact hb _ (List.getElem_mem hi)
def It (w:World) (g:Nat) (bs:List Nat) (pos:Nat):Prop:=w.heap[g]?=some (.stringIter (strB bs) pos)
theorem It.lt {w:World}{g:Nat}{bs:List Nat}{pos:Nat}(h:It w g bs pos):g<w.heap.size:=(Array.getElem?_eq_some_iff.1 h).1
theorem It.ext {w w':World}{g:Nat}{bs:List Nat}{pos:Nat}(h:It w g bs pos) (e:Ext w w'):It w' g bs pos:=e.heap h
theorem It.upd {w w':World}{g k:Nat}{bs:List Nat}{pos:Nat}(h:It w g bs pos) (e:Upd k w w') (hne:g≠k):It w' g bs pos:=e.heap h hne
theorem It.updO {w w':World}{g:Nat}{A:Option Addr}{bs:List Nat}{pos:Nat}(h:It w g bs pos) (e:UpdO A w w') (hne:∀p,A=some p→p.block≠g):It w' g bs pos:=e.heap h hne
theorem it_own_ne {w:World}{b t s n c g pos:Nat}{A:Option Addr}{us:List Value}{bs:List Nat}(h:Own w b t s A n c us) (hi:It w g bs pos):∀p,A=some p→p.block≠g:=fun p hp e=>by
 rcases h with⟨h,_⟩ | ⟨k,cs,hA,_,hk,_⟩
 ·rw [h] at hp;cases hp
 ·rw [hA] at hp;cases hp
  simp only at e
  subst e
  unfold Bk at hk
  unfold It at hi
  rw [hk] at hi
  cases hi
theorem Own.updI {w w':World}{b t s n c g pos:Nat}{A:Option Addr}{us:List Value}{bs:List Nat}(h:Own w b t s A n c us) (hi:It w g bs pos) (u:Upd g w w'):Own w' b t s A n c us:=h.upd u (it_own_ne h hi)
section
variable {P:Program}{Q:Exit→Act→World→Prop}{n:Nat}{l:Fr}{w:World}{ops:Array Oper}{rest:List Oper}{d:Nat}{ty:TypeId}{pos:String}{af:Array Edge}{gd:Option (Nat×Bool)}
theorem wl_range {x:Operand}{t:TypeId}{bs:List Nat}(hw:guardB ops l gd=some true) (hx:evo l x=some (.string (strB bs))) (ht:P.underlying t=some .string) (hn:d<n)
  (h:∀g w',w.heap.size=g→It w' g bs 0→Ext w w'→wl P ops Q n rest ((d,.pointer (some ⟨g,0,none⟩))::l) w'):wl P ops Q n (⟨some d,.range t x,ty,pos,af,gd⟩::rest) l w:=by
 refine wl_val hw hn (fun a' ha=>?_) (h _ (w.iter (strB bs) 0) rfl (World.iter_heap w _ 0) ((Ext.refl w).alloc _))
 have e:(Instr.range t (a'.eval x)).run P w= .ok (.pointer (some ⟨w.heap.size,0,none⟩)) (w.iter (strB bs) 0):=by rw [ha.ev hx];exact run_range_string w t _ ht
 show ((Instr.range t (a'.eval x)>>=fun r=>pure (Next.value r):Sem Next)).run P w=_
 rw [Sem.run_bind,e];rfl
theorem run_nextI {g p:Nat}{bs:List Nat}(h:It w g bs p) (hp:p<bs.length) (ty:TypeId):
  ∃w',(Instr.next (.pointer (some ⟨g,0,none⟩)) true ty).run P w= .ok (.tuple #[.bool true,.int .i64 (p:Int),.int .i32 ((Utf8.decode (strB bs) p).1:Int)]) w'∧It w' g bs (p+(Utf8.decode (strB bs) p).2)∧Upd g w w':=by
 have hs:p<(strB bs).size:=by rw [strB_size];exact hp
 refine⟨{w with heap:=w.heap.setIfInBounds g (.stringIter (strB bs) (p+(Utf8.decode (strB bs) p).2))},?_,?_,?_⟩
 ·unfold It at h
  simp only [Instr.next,getObj,setObj,Sem.run_bind,Sem.run,h,Result.andThen,hs,if_true]
  simp [goInt]
 ·unfold It
  have:=h.lt
  simp [this]
 ·refine⟨⟨rfl,rfl,rfl,by simp,fun k hk hne=>?_⟩⟩
  have:g≠k:=fun e=>hne (by rw [e])
  simp [this]
theorem run_nextI_end {g p:Nat}{bs:List Nat}(h:It w g bs p) (hp:¬p<bs.length) (ty:TypeId):(Instr.next (.pointer (some ⟨g,0,none⟩)) true ty).run P w= .ok (.tuple #[.bool false]) w:=by
 have hs:¬p<(strB bs).size:=by rw [strB_size];exact hp
 unfold It at h
 simp [Instr.next,getObj,Sem.run,h,hs]
theorem wl_next {x:Operand}{g p:Nat}{bs:List Nat}(hw:guardB ops l gd=some true) (hx:evo l x=some (.pointer (some ⟨g,0,none⟩))) (h:It w g bs p) (hp:p<bs.length) (hn:d<n)
  (k:∀w',It w' g bs (p+(Utf8.decode (strB bs) p).2)→Upd g w w'→wl P ops Q n rest ((d,.tuple #[.bool true,.int .i64 (p:Int),.int .i32 ((Utf8.decode (strB bs) p).1:Int)])::l) w'):
  wl P ops Q n (⟨some d,.next x true,ty,pos,af,gd⟩::rest) l w:=by
 obtain⟨w',hr,h1,h2⟩:=run_nextI (P:=P) h hp ty
 refine wl_val hw hn (fun a' ha=>?_) (k w' h1 h2)
 have e:(Instr.next (a'.eval x) true ty).run P w= .ok (.tuple #[.bool true,.int .i64 (p:Int),.int .i32 ((Utf8.decode (strB bs) p).1:Int)]) w':=by rw [ha.ev hx];exact hr
 show ((Instr.next (a'.eval x) true ty>>=fun r=>pure (Next.value r):Sem Next)).run P w=_
 rw [Sem.run_bind,e];rfl
theorem wl_next_end {x:Operand}{g p:Nat}{bs:List Nat}(hw:guardB ops l gd=some true) (hx:evo l x=some (.pointer (some ⟨g,0,none⟩))) (h:It w g bs p) (hp:¬p<bs.length) (hn:d<n)
  (k:wl P ops Q n rest ((d,.tuple #[.bool false])::l) w):wl P ops Q n (⟨some d,.next x true,ty,pos,af,gd⟩::rest) l w:=by
 refine wl_val hw hn (fun a' ha=>?_) k
 have e:(Instr.next (a'.eval x) true ty).run P w= .ok (.tuple #[.bool false]) w:=by rw [ha.ev hx];exact run_nextI_end (P:=P) h hp ty
 show ((Instr.next (a'.eval x) true ty>>=fun r=>pure (Next.value r):Sem Next)).run P w=_
 rw [Sem.run_bind,e];rfl
end
def dv (c:Nat):Nat:=if 48≤c∧c≤57 then c-48 else if 97≤c∧c≤122 then c-87 else if 65≤c∧c≤90 then c-55 else 36
theorem dv_le (c:Nat):dv c≤36:=by unfold dv;split <;> (try split) <;> (try split) <;> omega
theorem dv_high {c:Nat}(h:128≤c):dv c=36:=by unfold dv;rw [if_neg (by omega),if_neg (by omega),if_neg (by omega)]
theorem decode_low {bs:List Nat}(hb:∀b,b∈bs→b<256){p:Nat}(hp:p<bs.length) (h:bs.getD p 0<128):Utf8.decode (strB bs) p=(bs.getD p 0,1):=by
 have hs:p<(strB bs).size:=by rw [strB_size];exact hp
 have e:=strB_get hb hp hs
 rw [decode_ascii (strB bs) p hs (by rw [e];exact h),e]
def vald (b:Nat) (ds:List Nat):Nat:=ds.foldl (fun a d=>a*b+d) 0
theorem vald_snoc (b:Nat) (ds:List Nat) (d:Nat):vald b (ds++ [d])=vald b ds*b+d:=by unfold vald;rw [List.foldl_append];rfl
theorem vald_foldl (b a:Nat):∀ds:List Nat,ds.foldl (fun a d=>a*b+d) a=a*b^ds.length+vald b ds
 | []=>by simp [vald]
 | d::ds=>by
  have e:vald b (d::ds)=(0*b+d)*b^ds.length+vald b ds:=by
   unfold vald;rw [List.foldl_cons];exact vald_foldl b _ ds
  rw [List.foldl_cons,vald_foldl b _ ds,e,List.length_cons,Nat.pow_succ]
  simp only [Nat.zero_mul,Nat.zero_add,Nat.add_mul,Nat.mul_assoc]
  rw [Nat.mul_comm b (b^ds.length)]
  omega
theorem vald_append (b:Nat) (xs ys:List Nat):vald b (xs++ys)=vald b xs*b^ys.length+vald b ys:=by
 unfold vald
 rw [List.foldl_append,vald_foldl]
 rfl
theorem vald_lt {b:Nat}(_hb:1≤b):∀ds:List Nat,(∀d,d∈ds→d<b)→vald b ds<b^ds.length:=by
 intro ds
 induction ds using snocRecR with
 | nil=>intro _;simp [vald]
 | snoc r a ih=>
  intro h
  have h1:=ih fun d hd=>h d (by simp [hd])
  have h2:=h a (by simp)
  rw [vald_snoc,List.length_append,List.length_singleton,Nat.pow_succ]
  have h3:(vald b r+1)*b≤b^r.length*b:=Nat.mul_le_mul_right b h1
  rw [Nat.add_mul,Nat.one_mul] at h3
  omega
def Good (b:Nat) (bs:List Nat):Prop:=bs≠ []∧∀c,c∈bs→dv c<b
end Go.Proofs.YthggegdkpalgbaaGreatDoor

namespace Go.Proofs.YthggegdkpalgbaaGreatDoor
open Go.ChangeShapes Go.WideShapes Go.ChangeAt Go.RowKit
theorem str_bytes (s:ByteArray):∃bs:List Nat,s=strB bs∧(∀b,b∈bs→b<256)∧bs.length=s.size:=by
 refine⟨s.data.toList.map UInt8.toNat,?_,?_,?_⟩
 ·unfold strB
  rw [List.map_map]
  have:(UInt8.ofNat∘UInt8.toNat)=id:=funext fun x=>UInt8.ofNat_toNat
  rw [this,List.map_id]
 ·intro b hb
  obtain⟨x,_,rfl⟩:=List.mem_map.1 hb
  exact x.toNat_lt
 ·rw [List.length_map,Array.length_toList];rfl
theorem strB_inj {a b:List Nat}(ha:∀x,x∈a→x<256) (hb:∀x,x∈b→x<256) (h:strB a=strB b):a=b:=by
 have hl:a.length=b.length:=by rw [←strB_size a,h,strB_size]
 refine List.ext_getElem hl fun i h1 h2=>?_
 have e1:=strB_get ha h1 (by rw [strB_size];exact h1)
 have e2:=strB_get hb h2 (by rw [strB_size];exact h2)
 have e3:((strB a)[i]'(by rw [strB_size];exact h1)).toNat=((strB b)[i]'(by rw [strB_size];exact h2)).toNat:=by
  congr 1;simp only [h]
 rw [e1,e2,List.getD_eq_getElem?_getD,List.getElem?_eq_getElem h1,List.getD_eq_getElem?_getD,List.getElem?_eq_getElem h2] at e3
 exact e3
def strE (o:BinOp) (a b:List Nat):Option Bool:=match o with
 | .eql=>some (decide (a=b))
 | .neq=>some (!decide (a=b))
 | _=>none
theorem toList_inj {a b:ByteArray}(h:a.toList=b.toList):a=b:=by
 rw [ByteArray.toList_eq,ByteArray.toList_eq] at h
 exact Go.WideShapes.bytes_inj h
section
variable {P:Program}{Q:Exit→Act→World→Prop}{n:Nat}{l:Fr}{w:World}{ops:Array Oper}{rest:List Oper}{d:Nat}{ty:TypeId}{pos:String}{af:Array Edge}{gd:Option (Nat×Bool)}
theorem run_streq {t:TypeId}{x y:Operand}{o:BinOp}{a b:List Nat}{r:Bool}(ha:∀x,x∈a→x<256) (hb:∀x,x∈b→x<256) (hr:strE o a b=some r):
  ((do eqGuard o t x y (.string (strB a)) (.string (strB b));binOp o t (.string (strB a)) (.string (strB b))):Sem Value).run P w= .ok (.bool r) w:=by
 have key:((strB a).toList==(strB b).toList)=decide (a=b):=by
  by_cases h:a=b
  ·subst h;simp
  ·rw [decide_eq_false h,beq_eq_false_iff_ne]
   exact fun e=>h (strB_inj ha hb (toList_inj e))
 cases o <;> simp only [strE,reduceCtorEq,Option.some.injEq] at hr
 ·subst hr;simp [eqGuard,binOp,Op.stringOp,key]
 ·subst hr;simp [eqGuard,binOp,Op.stringOp,key]
theorem wl_streq {o:BinOp}{t t':TypeId}{x y:Operand}{a b:List Nat}(hw:guardB ops l gd=some true) (hx:evo l x=some (.string (strB a))) (hy:evo l y=some (.string (strB b))) (ha:∀x,x∈a→x<256) (hb:∀x,x∈b→x<256) (r:Bool) (hr:strE o a b=some r) (hn:d<n)
  (h:wl P ops Q n rest ((d,.bool r)::l) w):wl P ops Q n (⟨some d,.binOp o t x y t',ty,pos,af,gd⟩::rest) l w:=
 wl_val hw hn (fun a' ha'=>by
  have e:((do eqGuard o t x y (a'.eval x) (a'.eval y);binOp o t (a'.eval x) (a'.eval y)):Sem Value).run P w= .ok (.bool r) w:=by
   rw [ha'.ev hx,ha'.ev hy];exact run_streq ha hb hr
  show ((((do eqGuard o t x y (a'.eval x) (a'.eval y);binOp o t (a'.eval x) (a'.eval y)):Sem Value)>>=fun r=>pure (Next.value r)):Sem Next).run P w=_
  rw [Sem.run_bind,e];rfl) h
end
theorem bulk_mem {H:Type}{d:DataW H}:∀{l:List (DataW H)},d∈l→Rows.uptoBulk d≤Rows.uptoBulkAll l
 | x::r,h=>by
  simp only [Rows.uptoBulkAll]
  rcases List.mem_cons.1 h with rfl | h
  ·omega
  ·have:=bulk_mem h;omega
def Al (k:Nat) (ok:World→List Value→Prop) (w:World) (A:Option Addr) (n:Nat):Prop:=
 ∀i,i<n→∃p us,A.map (·.add (i*k))=some p∧us.length=k∧(∀j,j<k→w.cell? (p.add j)=some (us.getD j undef))∧ok w us
set_option maxRecDepth 20000 in
theorem open_al {H:Type}{enc:TypeId×Value→H}{W:World}{base:Nat}{v:Value}{d:DataW H}{pl:List MemPlace}{t e:TypeId}{k:Nat}(ht:Tryz.prog.underlying t=some (.slice e)) (hk:Tryz.prog.cellsOf e=k){ok:World→List Value→Prop}
  (hok:∀fuel cs (x:DataW H×List MemPlace),DataW.trod enc Tryz.prog W 0 (fun _=>true) true fuel e cs=some x→Rows.uptoBulk x.1≤Rows.uptoBulk d→ok W cs)
  (hval:Value.okWide Tryz.prog W .any base t v) (h:DataW.Trod enc Tryz.prog W 0 (fun _=>true) true t v d pl):
  ∃A n cap,v= .slice A n cap∧Al k ok W A n∧n≤Rows.uptoBulk d:=by
 obtain⟨A,n,cap,rfl⟩:=okWide_slice ht hval
 obtain⟨fuel,hf⟩:=h
 have hf':DataW.trod enc Tryz.prog W 0 (fun _=>true) true fuel t [.slice A n cap]=some (d,pl):=hf
 rcases Go.Deep.open_slice ht hf' with⟨hcs,hx⟩ | ⟨a,n',cap',m,q,D,Pl,hcs,_,hl,hm,hmm,hx,hi⟩
 ·have h1:=List.singleton_inj.1 hcs
  injection h1 with e1 e2 e3
  subst e1;subst e2;subst e3
  exact⟨none,0,0,rfl,fun i hi=>by omega,Nat.zero_le _⟩
 ·have h1:=List.singleton_inj.1 hcs
  injection h1 with e1 e2 e3
  subst e1;subst e2;subst e3
  simp only [if_true] at hmm
  have hmm':=hmm.symm
  subst hmm'
  simp only [Prod.mk.injEq] at hx
  obtain⟨rfl,rfl⟩:=hx
  rw [hk] at hi
  refine⟨some a,n,cap,rfl,fun i hin=>?_,?_⟩
  ·obtain⟨cs',hc,ht'⟩:=hi i (by omega)
   obtain⟨_,hcl,hat⟩:=World.cells?_some hc
   refine⟨a.add (i*k),cs',rfl,hcl,fun j hj=>?_,hok _ _ _ ht' ?_⟩
   ·have:=hat j hj
    rw [this,List.getElem?_eq_getElem (by omega),List.getD_eq_getElem?_getD,List.getElem?_eq_getElem (by omega)];rfl
   ·have:=bulk_mem (H:=H) (l:=(List.range n).map D) (List.mem_map.2 ⟨i,List.mem_range.2 hin,rfl⟩)
    simp only [Rows.uptoBulk]
    omega
  ·have:=bulk_slice (H:=H) ((List.range n).map D) ((List.range (cap-n)).map fun j=>D (n+j))
   rw [List.length_map,List.length_range] at this
   omega
end Go.Proofs.YthggegdkpalgbaaGreatDoor

namespace Go.Proofs.YthggegdkpalgbaaGreatDoor
open Go.RowKit
section
variable {P:Program}
theorem run_app0 {t ty e:TypeId}{z:Value}{bytes:Nat}(ht:P.underlying t=some (.slice e)) (hinfo:(P.info? e).map (fun i=>(i.zero,i.size,i.bytes))=some (some z,1,bytes)) (hzs:z.cells.size=1) (hby:bytes≤64)
  {w:World}{base g:Nat}(hg:base≤g) (hb:base≤w.heap.size) (hk:Bk w g e []){S:Option Addr}{m c:Nat}{news:List Value}(hr:Rv w 1 S m c news) (h1:∀u∈news,u.oneCell'=true) (hm:m≤1099511627776):
  ∃A' cap' w',(Builtin.append_ #[t,t] ty #[.slice (some ⟨g,0,none⟩) 0 0,.slice S m c]).run P w= .ok (.slice A' m cap') w'∧Own w' base e 1 A' m cap' news∧Ext w w':=by
 obtain⟨i,hi,hz,hz1,hz2⟩:=info_parts hinfo
 have own0:Own w base e 1 (some ⟨g,0,none⟩) 0 0 []:=Own.mk_ hg hk (Nat.le_refl _) (Nat.zero_le _) rfl rfl
 have hl:=hr.len
 have nil0:m=0→news= []:=fun h=>List.eq_nil_of_length_eq_zero (by rw [hl,h])
 cases S with
 | none=>
  have h0:m=0:=by
   rcases Nat.eq_zero_or_pos m with h0 | h0
   ·exact h0
   ·obtain⟨ad,h,_⟩:=hr.get 0 (by omega)
    cases h
  rw [nil0 h0,h0]
  exact⟨_,_,w,run_append_of_nil (P:=P) w base t ty e i 1 ht hi _ 0 [] own0.row c,own0,Ext.refl w⟩
 | some a=>
  by_cases h0:m=0
  ·rw [nil0 h0,h0]
   have hfc:=run_firstCells_some (P:=P) (w:=w) i.size 0 a 0 c [] (by simp) (by simp)
   exact⟨_,_,w,by simp [Builtin.append_,run_underlying ht,sizeOf,typeInfo,hi,Builtin.lenOf,hfc,storeCells],own0,Ext.refl w⟩
  ·obtain⟨v',w',hrun,h2,h3⟩:=run_append_arg_grows (P:=P) w t ty e i z 1 bytes ht hi hz hz1 hz2 hzs (by decide) ⟨g,0,none⟩ 0 0 [] rfl (fun j u hj=>by simp at hj) a m c news hl
    (fun j u hu=>by
     have hj:j<news.length:=(List.getElem?_eq_some_iff.1 hu).1
     obtain⟨a',ha',hc⟩:=hr.get j (by rw [←hl];exact hj)
     cases ha'
     rw [hc,←hu,List.getD_eq_getElem?_getD,List.getElem?_eq_getElem hj]
     rfl) (by omega) (by rw [len_maxLen];omega) (by
     have:(0+m)*bytes≤1099511627776*64:=Nat.mul_le_mul (by omega) hby
     omega)
   obtain⟨A',cap',rfl,ho⟩:=Own.of_row h2
   rw [Nat.zero_add,List.nil_append] at ho
   rw [Nat.zero_add] at hrun
   exact⟨A',cap',w',hrun,ho.mono hb,(UpdO.of (A:=none) h3).ext (Ext.refl w) (fun p hp=>by cases hp)⟩
variable {Q:Exit→Act→World→Prop}{n:Nat}{l:Fr}{w:World}{ops:Array Oper}{rest:List Oper}{d:Nat}{ty:TypeId}{pos:String}{af:Array Edge}{gd:Option (Nat×Bool)}
theorem wl_app0 {x y:Operand}{t e:TypeId}{z:Value}{bytes m c base g:Nat}{S:Option Addr}{news:List Value}(hw:guardB ops l gd=some true) (hx:evo l x=some (.slice (some ⟨g,0,none⟩) 0 0)) (hy:evo l y=some (.slice S m c))
  (ht:P.underlying t=some (.slice e)) (hinfo:(P.info? e).map (fun i=>(i.zero,i.size,i.bytes))=some (some z,1,bytes)) (hzs:z.cells.size=1) (hby:bytes≤64)
  (hg:base≤g) (hb:base≤w.heap.size) (hk:Bk w g e []) (hr:Rv w 1 S m c news) (h1:∀u∈news,u.oneCell'=true) (hm:m≤1099511627776) (hn:d<n)
  (h:∀A' cap' w',Own w' base e 1 A' m cap' news→Ext w w'→wl P ops Q n rest ((d,.slice A' m cap')::l) w'):
  wl P ops Q n (⟨some d,.call {callee:= .builtin .append,args:= #[x,y],argTypes:= #[t,t]},ty,pos,af,gd⟩::rest) l w:=by
 obtain⟨A',cap',w',hr,h2,h3⟩:=run_app0 (P:=P) (ty:=ty) ht hinfo hzs hby hg hb hk hr h1 hm
 refine wl_val hw hn (fun a' ha=>?_) (h A' cap' w' h2 h3)
 unfold execOp
 simp only [resolve,invoke,builtin,Sem.run_bind,Sem.run_pure,Result.andThen_ok,List.map_toArray,List.map_cons,List.map_nil,ha.ev hx,ha.ev hy]
 rw [hr]
 rfl
end
theorem made_zcells (k:Nat):(madeCells (Value.agg #[.bool false,.slice none 0 0]).cells (k*2)).toList=zcells (List.replicate k ZC.zero):=by
 refine List.ext_getElem ?_ fun j h1 h2=>?_
 ·rw [Array.length_toList,size_madeCells,zcells_len,List.length_replicate]
 ·have hj:j<k*2:=by simpa [size_madeCells] using h1
  have e1:(madeCells (Value.agg #[.bool false,.slice none 0 0]).cells (k*2)).toList[j]= #[Value.bool false,.slice none 0 0][j%2]!:=by
   simp [madeCells,Value.cells]
  rw [e1]
  have hjk:j/2<(List.replicate k ZC.zero).length:=by rw [List.length_replicate];omega
  have hz:(List.replicate k ZC.zero).getD (j/2) ZC.zero=ZC.zero:=by
   rw [List.getD_eq_getElem?_getD,List.getElem?_replicate];split <;> rfl
  rcases Nat.mod_two_eq_zero_or_one j with h | h
  ·have e2:=zcells_get0 (List.replicate k ZC.zero) (j/2) hjk
   rw [show j/2*2=j by omega,List.getElem?_eq_getElem h2,hz] at e2
   injection e2 with e2
   rw [e2,h];rfl
  ·have e2:=zcells_get1 (List.replicate k ZC.zero) (j/2) hjk
   rw [show j/2*2+1=j by omega,List.getElem?_eq_getElem h2,hz] at e2
   injection e2 with e2
   rw [e2,h];rfl
section
variable {Q:Exit→Act→World→Prop}{N:Nat}{l:Fr}{w:World}{ops:Array Oper}{rest:List Oper}{d:Nat}{ty:TypeId}{pos:String}{af:Array Edge}{gd:Option (Nat×Bool)}
theorem wl_makeL {x y:Operand}{k:Nat}(m:Option World) (K b:Nat) (hw:guardB ops l gd=some true) (hx:evo l x=some (.int .i64 (k:Int))) (hy:evo l y=some (.int .i64 (k:Int))) (hk:k≤1099511627776) (hd:d<N)
  (h:∀g w',w.heap.size=g→Lz m K b w' g (some ⟨g,0,none⟩) k k (List.replicate k 0)→Ext w w'→wl Tryz.prog ops Q N rest ((d,.slice (some ⟨g,0,none⟩) k k)::l) w'):wl Tryz.prog ops Q N (⟨some d,.makeSlice 27 x y,ty,pos,af,gd⟩::rest) l w:=by
 obtain⟨i,hi,hz0,hz1,hz2⟩:=info_parts infoI
 have hr:=run_make (P:=Tryz.prog) w 27 26 i _ elemI hi hz0 .i64 .i64 (k:Int) (k:Int) (by omega) (by omega) (by rw [hz2];omega) (by omega)
 rw [Int.toNat_natCast,hz1] at hr
 obtain⟨cs,hcs,hcl⟩:∃cs:List Value,madeCells (Value.agg #[.bool false,.slice none 0 0]).cells (k*2)=cs.toArray∧cs=zcells (List.replicate k ZC.zero):=⟨(madeCells (Value.agg #[.bool false,.slice none 0 0]).cells (k*2)).toList,Array.toArray_toList.symm,made_zcells k⟩
 rw [hcs] at hr
 have hlen:cs.length=k*2:=by rw [hcl,zcells_len,List.length_replicate]
 refine wl_val hw hd (fun a' ha=>?_) (h _ (w.alloc (.cells cs.toArray 26)) rfl ⟨List.replicate k ZC.zero,Or.inr ⟨w.heap.size,cs,rfl,Nat.le_refl _,Bk.new _ _ _,Nat.le_refl _,by rw [len_maxLen];omega,hlen,by rw [List.take_of_length_le (by omega)];exact hcl⟩,List.length_replicate ..,List.length_replicate ..,fun i hi=>?_⟩ ((Ext.refl w).alloc _))
 ·have e':(Instr.makeSlice 27 (a'.eval x) (a'.eval y)).run Tryz.prog w= .ok (.slice (some ⟨w.heap.size,0,none⟩) k k) (w.alloc (.cells cs.toArray 26)):=by rw [ha.ev hx,ha.ev hy];exact hr
  show ((Instr.makeSlice 27 (a'.eval x) (a'.eval y)>>=fun r=>pure (Next.value r):Sem Next)).run Tryz.prog w=_
  rw [Sem.run_bind,e'];rfl
 ·have e1:(List.replicate k ZC.zero).getD i ZC.zero=ZC.zero:=by rw [List.getD_eq_getElem?_getD,List.getElem?_replicate];split <;> rfl
  have e2:(List.replicate k (0:Int)).getD i 0=0:=by rw [List.getD_eq_getElem?_getD,List.getElem?_replicate];split <;> rfl
  rw [e1,e2]
  exact⟨Nat.zero_le _,Or.inl Zr.zero⟩
end
def upto5 (zs:List Int) (n k:Nat):List Int:=zs.take k++List.replicate (n-k) 0
theorem upto5_zero (zs:List Int) (n:Nat):List.replicate n 0=upto5 zs n 0:=by simp [upto5]
theorem upto5_full {zs:List Int}{n:Nat}(h:zs.length=n):upto5 zs n n=zs:=by simp [upto5,←h]
theorem upto5_succ {zs:List Int}{n k:Nat}(h:zs.length=n) (hk:k<n):(upto5 zs n k).set k (zs.getD k 0)=upto5 zs n (k+1):=by
 unfold upto5
 rw [List.set_append_right _ _ (by rw [List.length_take];omega),List.length_take,Nat.min_eq_left (by omega),Nat.sub_self,show n-k=(n-(k+1))+1 by omega,List.replicate_succ,List.set_cons_zero]
 rw [show zs.take (k+1)=zs.take k++ [zs.getD k 0] by rw [List.take_add_one,List.getD_eq_getElem?_getD,List.getElem?_eq_getElem (by omega)];rfl,List.append_assoc]
 rfl
def ZOR (b:Nat) (s:Bool) (n:Nat) (z:Int) (v:Value) (w:World):Prop:=∃A c,v= .agg #[.bool s,.slice A n c]∧Zo w b s A n c z
theorem ZOR.imp {b b':Nat}{s:Bool}{n:Nat}{z:Int}(h:b'≤b):∀v w,ZOR b s n z v w→ZOR b' s n z v w:=fun _ _ ⟨A,c,h1,h2⟩=>⟨A,c,h1,h2.mono h⟩
theorem i64_shl {x s:Nat}(hs:s≤64) (hx:x*2^s≤9223372036854775807) (P:Program) (t:TypeId) (w:World):(binOp .shl t (.int .i64 (x:Int)) (.int .u64 (s:Int))).run P w= .ok (.int .i64 ((x*2^s:Nat):Int)) w:=by
 have e:((x:Int)*2^min (s:Int).toNat IntKind.i64.bits)=((x*2^s:Nat):Int):=by
  rw [Int.toNat_natCast,show min s IntKind.i64.bits=s from Nat.min_eq_left hs];simp
 simp only [binOp]
 rw [shift_shl_any _ _ _ _ (by omega),e,IntWalk.i64_in _ ⟨by omega,by omega⟩];rfl
def pslice (e:ZC):Value:= .slice e.A e.n e.c
def Pw (w:World) (pb:Nat) (PA:Option Addr) (pn pc unit:Nat):Prop:=∃es:List ZC,Own w pb 24 1 PA pn pc (es.map pslice)∧es.length=pn∧
 ∀i,i<pn→(es.getD i ZC.zero).n=(wd (unit^2^i)).length∧(es.getD i ZC.zero).n≤8388608∧Own w 0 67 1 (es.getD i ZC.zero).A (es.getD i ZC.zero).n (es.getD i ZC.zero).c ((wd (unit^2^i)).map W64)
theorem Pw.nil (w:World) (pb unit:Nat):Pw w pb none 0 0 unit:=⟨[],Own.nil _ _ _ _,rfl,fun i hi=>by omega⟩
theorem Pw.ext {w w':World}{PA:Option Addr}{pb pn pc unit:Nat}(h:Pw w pb PA pn pc unit) (e:Ext w w'):Pw w' pb PA pn pc unit:=by
 obtain⟨es,h1,h2,h3⟩:=h
 exact⟨es,h1.ext e,h2,fun i hi=>⟨(h3 i hi).1,(h3 i hi).2.1,(h3 i hi).2.2.ext e⟩⟩
theorem Pw.updW {lb:Nat}{w w':World}{PA:Option Addr}{pb pn pc unit:Nat}(h:Pw w pb PA pn pc unit) (u:UpdW lb w w'):Pw w' pb PA pn pc unit:=by
 obtain⟨es,h1,h2,h3⟩:=h
 exact⟨es,u.own h1 (by decide) (by decide),h2,fun i hi=>⟨(h3 i hi).1,(h3 i hi).2.1,u.own (h3 i hi).2.2 (by decide) (by decide)⟩⟩
theorem Pw.updT {w w':World}{PA:Option Addr}{pb pn pc unit g:Nat}{T:TypeId}{us:List Value}(h:Pw w pb PA pn pc unit) (hb:Bk w g T us) (u:Upd g w w') (h1:24≠T) (h2:67≠T):Pw w' pb PA pn pc unit:=by
 obtain⟨es,h4,h5,h3⟩:=h
 exact⟨es,h4.updT hb h1 u,h5,fun i hi=>⟨(h3 i hi).1,(h3 i hi).2.1,(h3 i hi).2.2.updT hb h2 u⟩⟩
theorem Pw.at {w:World}{PA:Option Addr}{pb pn pc unit i:Nat}(h:Pw w pb PA pn pc unit) (hi:i<pn):∃p A n c,PA.map (·.add (i*1))=some p∧w.cell? p=some (.slice A n c)∧n=(wd (unit^2^i)).length∧n≤8388608∧Own w 0 67 1 A n c ((wd (unit^2^i)).map W64):=by
 obtain⟨es,h1,h2,h3⟩:=h
 obtain⟨a,ha,hc⟩:=h1.rv.get i (by omega)
 have e:(es.map pslice).getD i undef=pslice (es.getD i ZC.zero):=by
  simp [List.getD_eq_getElem?_getD,List.getElem?_map,List.getElem?_eq_getElem (show i<es.length by omega)]
 rw [e] at hc
 obtain⟨h4,h5,h6⟩:=h3 i hi
 exact⟨a.add i,_,_,_,by rw [ha,Nat.mul_one];rfl,hc,h4,h5,h6⟩
theorem Pw.mono {w:World}{pb pb':Nat}{PA:Option Addr}{pn pc unit:Nat}(h:Pw w pb PA pn pc unit) (hb:pb'≤pb):Pw w pb' PA pn pc unit:=by
 obtain⟨es,h1,h2,h3⟩:=h
 exact⟨es,h1.mono hb,h2,h3⟩
theorem info_wl:(Tryz.prog.info? 24).map (fun i=>(i.zero,i.size,i.bytes))=some (some (.slice none 0 0),1,24):=by kernel_rfl
theorem wl_appP {Q:Exit→Act→World→Prop}{N:Nat}{l:Fr}{w:World}{ops:Array Oper}{rest:List Oper}{d:Nat}{ty:TypeId}{pos:String}{af:Array Edge}{gd:Option (Nat×Bool)}{x y:Operand}{pb pn pc unit g c n qc b:Nat}{PA A:Option Addr}(hw:guardB ops l gd=some true)
  (hx:evo l x=some (.slice PA pn pc)) (hy:evo l y=some (.slice (some ⟨g,0,none⟩) 1 c)) (h:Pw w pb PA pn pc unit) (hpb:pb≤w.heap.size) (hb:Bk w g 24 [.slice A n qc]) (hn:n=(wd (unit^2^pn)).length) (hn8:n≤8388608) (ho:Own w b 67 1 A n qc ((wd (unit^2^pn)).map W64)) (hm:pn≤64) (hd:d<N)
  (k:∀A' c' w',Pw w' pb A' (pn+1) c' unit→UpdO PA w w'→(∃us,Own w pb 24 1 PA pn pc us)→wl Tryz.prog ops Q N rest ((d,.slice A' (pn+1) c')::l) w'):
  wl Tryz.prog ops Q N (⟨some d,.call {callee:= .builtin .append,args:= #[x,y],argTypes:= #[39,39]},ty,pos,af,gd⟩::rest) l w:=by
 obtain⟨es,h1,h2,h3⟩:=h
 refine wl_app hw hx hy un_wl info_wl rfl (by decide) (by decide) h1 hpb [.slice A n qc] rfl (one_news _ hb) rfl (by omega) hd fun A' c' w' ho' hu _=>k A' c' w' ?_ hu ⟨_,h1⟩
 refine⟨es++ [⟨false,A,n,qc⟩],by rw [List.map_append];exact ho',by simp [h2],fun i hi=>?_⟩
 by_cases hin:i<pn
 ·rw [getD_app_l (by omega)]
  exact⟨(h3 i hin).1,(h3 i hin).2.1,(h3 i hin).2.2.updOT h1 (by decide) hu⟩
 ·have e1:i=pn:=by omega
  subst e1
  have e2:(es++ [(⟨false,A,n,qc⟩:ZC)]).getD i ZC.zero=⟨false,A,n,qc⟩:=by rw [←h2];exact getD_app_m
  rw [e2]
  exact⟨hn,hn8,(ho.mono (Nat.zero_le b)).updOT h1 (by decide) hu⟩
theorem bw_own {w:World}{g x:Nat}(h:Bk w g 67 [.int .u64 ((x:Nat):Int)]) (hx:x≤18446744073709551615) (h0:x≠0):Own w 0 67 1 (some ⟨g,0,none⟩) 1 1 ((wd x).map W64):=
 own1_wd (Own.mk_ (Nat.zero_le _) h (Nat.le_refl _) (by rw [len_maxLen];omega) rfl rfl) hx h0
theorem pow_sq {u j:Nat}:u^2^j*u^2^j=u^2^(j+1):=by rw [←Nat.pow_add,Nat.pow_succ];congr 1;omega
theorem len_sq {p n:Nat}(h:(wd p).length≤n):(wd (p*p)).length≤2*n:=by
 refine len_wd_le ?_
 have h1:=lt_pow_len p
 have h2:p<WB^n:=Nat.lt_of_lt_of_le h1 (Nat.pow_le_pow_right (by rw [WB_def];decide) h)
 rw [Nat.two_mul,Nat.pow_add]
 exact Nat.mul_lt_mul'' h2 h2
theorem rx_Cmp {w:World}{A B:Option Addr}{n c n' c' m m':Nat}(hx:Wi w A n c m) (hl:n≤1099511627776) (hy:Wi w B n' c' m') (hl':n'≤1099511627776):Calls Tryz.prog 118 #[.slice A n c,.slice B n' c'] w (Gv w (Is (.int .i64 (cmp3 m m')))):=by
 obtain⟨xs,h1,rfl⟩:=hx
 obtain⟨ys,h2,rfl⟩:=hy
 refine (nat_Cmp h1 hl h2 hl').mono fun e w' h=>?_
 obtain⟨d,h3,_,_,rfl,h4⟩:=h
 exact⟨_,rfl,(show Value.int .i64 d=_ by rw [h3.out]),h4⟩
theorem rx_DivMod {w:World}{b:Nat}(hb:b≤w.heap.size){A B:Option Addr}{n c n' c' m m':Nat}(hx:Wi w A n c m) (hl:n≤274877906944) (hy:Wi w B n' c' m') (hl':n'≤274877906944) (h0:m'≠0):Calls Tryz.prog 158 #[.slice A n c,.slice B n' c'] w (Gv w (T3 (WR b (m/m')) (WR b (m%m')) (Is (.int .i64 0)))):=by
 obtain⟨xs,h1,rfl⟩:=hx
 obtain⟨ys,h2,rfl⟩:=hy
 refine (divnat_DivMod h1 hl h2 hl' h0).mono fun e w' h=>?_
 obtain⟨A,n,cap,B,m,cap',rfl,h3,_,h4,h5,_,h6,h7⟩:=h
 exact⟨_,rfl,⟨_,_,_,rfl,⟨A,n,cap,rfl,h3.out,h4.mono hb⟩,⟨B,m,cap',rfl,h5.out,h6.mono hb⟩,rfl⟩,h7⟩
theorem rx_Square {w:World}{b:Nat}(hb:b≤w.heap.size){A:Option Addr}{n c m:Nat}(hx:Wi w A n c m) (hl:n≤137438953472):Calls Tryz.prog 157 #[.slice A n c] w (Gv w (WR b (m*m))):=by
 obtain⟨xs,h1,rfl⟩:=hx
 exact (mulnat_Square h1 hl).mono (gw hb)
theorem cmp3_ltT {x y:Nat}(h:x<y):cmpB .lss (cmp3 x y) 0=some true:=lt_t (cmp3_neg.2 h)
theorem cmp3_ltF {x y:Nat}(h:y≤x):cmpB .lss (cmp3 x y) 0=some false:=lt_f (by have:=cmp3_neg (a:=x) (b:=y);omega)
theorem cmp3_leT {x y:Nat}(h:x≤y):cmpB .leq (cmp3 x y) 0=some true:=le_t (by have:=cmp3_pos (a:=x) (b:=y);omega)
theorem cmp3_leF {x y:Nat}(h:y<x):cmpB .leq (cmp3 x y) 0=some false:=le_f (cmp3_pos.2 h)
theorem pow_le_bits {u m ip an:Nat}(hu:2≤u) (h:u^2^ip≤m) (hl:(wd m).length≤an):2^ip≤64*an:=by
 have h1:=lt_pow_len m
 rw [WB_pow,←Nat.pow_mul] at h1
 have h2:2^2^ip≤u^2^ip:=Nat.pow_le_pow_left hu _
 have h3:2^(64*(wd m).length)≤2^(64*an):=Nat.pow_le_pow_right (by decide) (Nat.mul_le_mul_left _ hl)
 exact Nat.le_of_lt ((Nat.pow_lt_pow_iff_right (by decide)).1 (Nat.lt_of_le_of_lt h2 (Nat.lt_of_le_of_lt h (Nat.lt_of_lt_of_le h1 h3))))
theorem ip_small {ip n:Nat}(h:2^ip≤n) (hn:n≤268435456):ip≤28:=by
 refine Nat.le_of_not_lt fun h2=>?_
 have h3:2^29≤2^ip:=Nat.pow_le_pow_right (by decide) h2
 omega
theorem txt_two {b k ip m width:Nat}(hb:2≤b) (h:(b^k)^2^ip≤m) (h0:0<(b^k)^2^ip):txt (padTo (db b (m/(b^k)^2^ip)) (width-k*2^ip))++txt (padTo (db b (m%(b^k)^2^ip)) (k*2^ip))=txt (padTo (db b m) width):=by
 have e:(b^k)^2^ip=b^(k*2^ip):=by rw [←Nat.pow_mul]
 rw [e] at h h0⊢
 have hq:m/b^(k*2^ip)≠0:=by have:=Nat.div_pos h h0;omega
 have hr:(db b (m%b^(k*2^ip))).length≤k*2^ip:=len_db_le hb (Nat.mod_lt _ h0)
 have hl:(padTo (db b (m%b^(k*2^ip))) (k*2^ip)).length=k*2^ip:=by rw [len_padTo];omega
 rw [←txt_app,padTo_app,←db_split hb hq,hl]
 by_cases hw:k*2^ip≤width
 ·rw [show k*2^ip+(width-k*2^ip)=width by omega]
 ·have h2:k*2^ip≤(db b m).length:=by rw [db_split hb hq,List.length_append,hl];omega
  rw [padTo_of (by omega),padTo_of (by omega)]
theorem two_len {b k ip m width:Nat}(hb:2≤b) (h:(b^k)^2^ip≤m) (h0:0<(b^k)^2^ip):max (width-k*2^ip) (db b (m/(b^k)^2^ip)).length+k*2^ip=max width (db b m).length∨(width<k*2^ip∧(db b (m/(b^k)^2^ip)).length+k*2^ip=(db b m).length):=by
 have e:(b^k)^2^ip=b^(k*2^ip):=by rw [←Nat.pow_mul]
 rw [e] at h h0⊢
 have hq:m/b^(k*2^ip)≠0:=by have:=Nat.div_pos h h0;omega
 have hr:(db b (m%b^(k*2^ip))).length≤k*2^ip:=len_db_le hb (Nat.mod_lt _ h0)
 have hl:(padTo (db b (m%b^(k*2^ip))) (k*2^ip)).length=k*2^ip:=by rw [len_padTo];omega
 have h2:(db b m).length=k*2^ip+(db b (m/b^(k*2^ip))).length:=by rw [db_split hb hq,List.length_append,hl]
 omega
def HalvesOk (ip:Nat):Prop:=∀{w:World}{g base k unit:Nat}{PA:Option Addr}{pn pc:Nat}{OA:Option Addr}{on oc lb:Nat}{bs:List Nat}{A:Option Addr}{an ac m width:Nat}{ii:Int}(_:ii=(ip:Int)-1) (_:Signs w) (_:3<lb) (_:2≤base) (_:base≤36) (_:Wr w g base k unit PA pn pc OA on oc)
 (_:Own w lb 5 1 OA on oc (bs.map B8)) (_:lb≤g) (_:lb≤w.heap.size) (_:Wi w A an ac m) (_:an≤4194304) (_:unit=base^k) (_:PieceK base k) (_:width≤137438953472) (_:on+max width (db base m).length≤137438953472) (_:Pw w 0 PA pn pc unit) (_:ip≤pn) (_:pn≤64),
 Calls Tryz.prog 172 #[.pointer (some ⟨g,0,none⟩),.slice A an ac,.int .i64 ii,.int .i64 ((width:Nat):Int)] w (WrP w lb g base k unit PA pn pc OA (bs++txt (padTo (db base m) width)))
theorem halves_zero:HalvesOk 0:=by
 intro w g base k unit PA pn pc OA on oc lb bs A an ac m width ii hii hS hgS hbl hbu hW hO hgl hlb ha hal hun hkk hwd hon hP hip hpn
 obtain rfl:ii= -1:=by omega
 exact rx_halves_low hS hgS hbl hbu hW hO hgl hlb ha hal hun hkk hwd (by omega)
set_option maxHeartbeats 4000000 in
theorem halves_step {ip:Nat}(ih:HalvesOk ip):HalvesOk (ip+1):=by
 intro w g base k unit PA pn pc OA on oc lb bs A an ac m width ii hii hS hgS hbl hbu hW hO hgl hlb ha hal hun hkk hwd hon hP hip hpn
 obtain rfl:ii=(ip:Int):=by omega
 have hml:(wd m).length≤4194304:=Nat.le_trans ha.len hal
 have hk1:1≤k:=by refine Nat.pos_of_ne_zero (fun e=>?_);have:=hkk.gt;rw [e,Nat.zero_add,Nat.pow_one] at this;omega
 have hu2:2≤unit:=by rw [hun];exact Nat.le_trans hbl (Nat.le_trans (Nat.le_of_eq (Nat.pow_one base).symm) (Nat.pow_le_pow_right (by omega) hk1))
 refine sx_enter Tryz.func172 rfl (n:=74) rfl (bq rfl) (args:= [.pointer (some ⟨g,0,none⟩),.slice A an ac,.int .i64 (ip:Int),.int .i64 ((width:Nat):Int)]) (cw_keep [(0,.pointer (some ⟨g,0,none⟩)),(1,.slice A an ac),(2,.int .i64 (ip:Int)),(3,.int .i64 ((width:Nat):Int))] ⟨rfl,rfl,rfl,rfl,trivial⟩ (cw_seq (cw_seq ?_)))
 by_cases h12:an≤12
 · 
  refine cw_region (mv 1 rfl (wl_cmp rfl rfl rfl false (lt_f (by omega)) (by decide) (mv 2 rfl (pu (v:= .int .i64 ((an:Nat):Int)) rfl (by kernel_rfl) (wl_cmp rfl rfl rfl true (cb_le_t (a:=an) (b:=12) rfl rfl (by omega)) (by decide) (pu (v:= .bool true) rfl (by kernel_rfl) (ne_ (cw_true rfl (sr (mv 3 rfl (wl_call rfl rfl (vs:= [.pointer (some ⟨g,0,none⟩),.slice A an ac,.int .i64 ((width:Nat):Int)]) (by kernel_rfl) (by decide) (rx_plain hS hgS hbl hbu hW hO hgl (Nat.le_trans hlb (UpdW.refl lb w).size) ha hal hun hkk hwd (by omega)) ?_)))))))))))
  rintro _ v1 ⟨rfl,A2,n3,c4,hb5,ho6,uw7,kp8⟩
  refine ret_intro ?_
  have hw1:UpdW lb w v1:=(UpdW.refl lb w).then uw7
  have kk9:=(Kept.refl w OA).next kp8 (UpdW.refl lb w).size
  refine ne_ (cw_ret (eo_thenR (eo_ret [] rfl trivial ?_)))
  exact⟨rfl,A2,_,_,hb5,ho6,hw1,kk9⟩
 · 
  refine cw_region (mv 1 rfl (wl_cmp rfl rfl rfl false (lt_f (by omega)) (by decide) (mv 2 rfl (pu (v:= .int .i64 ((an:Nat):Int)) rfl (by kernel_rfl) (wl_cmp rfl rfl rfl false (cb_le_f (a:=an) (b:=12) rfl rfl (by omega)) (by decide) (pu (v:= .bool false) rfl (by kernel_rfl) (ne_ (cw_false rfl (cw_skip (eo_then (cw_seq (cw_seq ?_))))))))))))
  by_cases hlt:m<unit^2^ip
  · 
   refine cw_region (mv 2 rfl (pf g 0 rfl (by kernel_rfl) (pf g 3 rfl (by kernel_rfl) (wl_load rfl rfl (load_cell (fun _=>by kernel_rfl) hW rfl) (by decide) (mv 1 rfl ?_)))))
   obtain⟨pp,BA,bn,bc,hpp,hcp,hbn,hbl8,hbo⟩:=hP.at (i:=ip) (by omega)
   have hpos:0<unit^2^ip:=Nat.pow_pos (by rw [hun];exact Nat.pow_pos (by omega))
   refine wl_idx rfl rfl rfl un_wl sz_wl ip rfl (by omega) pp hpp (by decide) (wl_load rfl rfl (load_cell1 ag_wl hcp) (by decide) (wl_call rfl rfl (vs:= [.slice A an ac,.slice BA bn bc]) (by kernel_rfl) (by decide) (rx_Cmp ha (by omega) hbo.wi (by omega)) ?_))
   rintro _ v10 ⟨xr12,rfl,r12,e11⟩
   refine ret_intro ?_
   have hw1:UpdW lb w v10:=(UpdW.refl lb w).trans e11
   have hx1:Ext w v10:=(Ext.refl w).trans e11
   obtain rfl:=r12
   refine wl_cmp rfl rfl rfl true (cmp3_ltT hlt) (by decide) (ne_ (cw_true rfl (sr (mv 3 rfl (wl_ar rfl rfl rfl ((ip:Int)-1) (ar_i64s rfl (by omega) (by omega)) (by decide) (mv 1 rfl (wl_call rfl rfl (vs:= [.pointer (some ⟨g,0,none⟩),.slice A an ac,.int .i64 ((ip:Int)-1),.int .i64 ((width:Nat):Int)]) (by kernel_rfl) (by decide) (ih rfl (hS.ext e11) hgS hbl hbu (hW.ext e11) (hO.ext e11) hgl (Nat.le_trans hlb hw1.size) (ha.ext e11) hal hun hkk (by omega) (by omega) (hP.ext e11) (by omega) hpn) ?_)))))))
   rintro _ v13 ⟨rfl,A14,n15,c16,hb17,ho18,uw19,kp20⟩
   refine ret_intro ?_
   have hw2:UpdW lb w v13:=hw1.then uw19
   have kk21:=(Kept.refl w OA).next kp20 hw1.size
   refine ne_ (cw_ret (eo_thenR (eo_ret [] rfl trivial ?_)))
   exact⟨rfl,A14,_,_,hb17,ho18,hw2,kk21⟩
  · 
   have hge:unit^2^ip≤m:=by omega
   have hbits:=pow_le_bits hu2 hge hml
   have hip28:=ip_small hbits (by omega)
   have hlow:k*2^ip≤64*268435456:=Nat.mul_le_mul hkk.le64 (by omega)
   have hge2:(base^k)^2^ip≤m:=hun▸hge
   have hp2:0<(base^k)^2^ip:=Nat.pow_pos (Nat.pow_pos (by omega))
   have hq1:(wd (m/unit^2^ip)).length≤4194304:=Nat.le_trans (len_wd_mono (Nat.div_le_self _ _)) hml
   have hr1:(wd (m%unit^2^ip)).length≤4194304:=Nat.le_trans (len_wd_mono (Nat.mod_le _ _)) hml
   have hrl:(db base (m%unit^2^ip)).length≤k*2^ip:=len_db_le hbl (by rw [Nat.pow_mul,←hun];exact Nat.mod_lt _ (hun▸hp2))
   have htl:=two_len (width:=width) hbl hge2 hp2
   rw [←hun] at htl
   refine cw_region (mv 2 rfl (pf g 0 rfl (by kernel_rfl) (pf g 3 rfl (by kernel_rfl) (wl_load rfl rfl (load_cell (fun _=>by kernel_rfl) hW rfl) (by decide) (mv 1 rfl ?_)))))
   obtain⟨pp,BA,bn,bc,hpp,hcp,hbn,hbl8,hbo⟩:=hP.at (i:=ip) (by omega)
   have hpos:0<unit^2^ip:=Nat.pow_pos (by rw [hun];exact Nat.pow_pos (by omega))
   refine wl_idx rfl rfl rfl un_wl sz_wl ip rfl (by omega) pp hpp (by decide) (wl_load rfl rfl (load_cell1 ag_wl hcp) (by decide) (wl_call rfl rfl (vs:= [.slice A an ac,.slice BA bn bc]) (by kernel_rfl) (by decide) (rx_Cmp ha (by omega) hbo.wi (by omega)) ?_))
   rintro _ v22 ⟨xr24,rfl,r24,e23⟩
   refine ret_intro ?_
   have hw1:UpdW lb w v22:=(UpdW.refl lb w).trans e23
   have hx1:Ext w v22:=(Ext.refl w).trans e23
   obtain rfl:=r24
   refine wl_cmp rfl rfl rfl false (cmp3_ltF (by omega)) (by decide) (ne_ (cw_false rfl (cw_skip (eo_then (sr (mv 2 rfl (pf g 0 rfl (by kernel_rfl) (pf g 3 rfl (by kernel_rfl) (wl_load rfl rfl (load_cell (fun _=>by kernel_rfl) (hW.ext e23) rfl) (by decide) (mv 1 rfl ?_))))))))))
   obtain⟨pp,BA,bn,bc,hpp,hcp,hbn,hbl8,hbo⟩:=(hP.ext e23).at (i:=ip) (by omega)
   have hpos:0<unit^2^ip:=Nat.pow_pos (by rw [hun];exact Nat.pow_pos (by omega))
   refine wl_idx rfl rfl rfl un_wl sz_wl ip rfl (by omega) pp hpp (by decide) (wl_load rfl rfl (load_cell1 ag_wl hcp) (by decide) (wl_call rfl rfl (vs:= [.slice A an ac,.slice BA bn bc]) (by kernel_rfl) (by decide) (rx_DivMod (Nat.zero_le _) (ha.ext e23) (by omega) hbo.wi (by omega) (by omega)) ?_))
   rintro _ v25 ⟨xr27,rfl,r27,e26⟩
   refine ret_intro ?_
   have hw2:UpdW lb w v25:=hw1.trans e26
   have hx2:Ext w v25:=hx1.trans e26
   obtain⟨_,_,_,rfl,⟨A29,n29,c29,rfl,j29,o29⟩,⟨A30,n30,c30,rfl,j30,o30⟩,rfl⟩:=r27
   refine mv 1 rfl (pu (v:= .slice A29 n29 c29) rfl (by kernel_rfl) (pu (v:= .slice A30 n30 c30) rfl (by kernel_rfl) (pu (v:= .int .i64 0) rfl (by kernel_rfl) (mv 3 rfl (ne_ (sr (mv 1 rfl (pf g 0 rfl (by kernel_rfl) (pf g 1 rfl (by kernel_rfl) (wl_load rfl rfl (load_cell (fun _=>by kernel_rfl) (hW.ext (e23.trans e26)) rfl) (by decide) (mv 1 rfl (wl_pureE rfl rfl (v:= .int .u64 (IntKind.u64.wrap ((ip:Nat):Int))) (v':= .int .u64 ((ip:Nat):Int)) (by decide) (by kernel_rfl) (cv_u64 (by omega)) (wl_op rfl rfl rfl (r:= .int .i64 ((k*2^ip:Nat):Int)) rfl (fun w=>i64_shl (x:=k) (s:=ip) (by omega) (by omega) _ _ w) (by decide) ?_)))))))))))))
   refine mv 1 rfl (ne_ (sr (mv 3 rfl (wl_ar rfl rfl rfl ((ip:Int)-1) (ar_i64s rfl (by omega) (by omega)) (by decide) (mv 2 rfl (wl_ar rfl rfl rfl (((width:Nat):Int)-((k*2^ip:Nat):Int)) (ar_i64s rfl (by omega) (by omega)) (by decide) (wl_mm rfl rfl rfl (((width-k*2^ip:Nat):Int)) (by omega) (by decide) (wl_call rfl rfl (vs:= [.pointer (some ⟨g,0,none⟩),.slice A29 n29 c29,.int .i64 ((ip:Int)-1),.int .i64 ((width-k*2^ip:Nat):Int)]) (by kernel_rfl) (by decide) (ih rfl (hS.ext (e23.trans e26)) hgS hbl hbu (hW.ext (e23.trans e26)) (hO.ext (e23.trans e26)) hgl (Nat.le_trans hlb hw2.size) o29.wi (by rw [j29];exact hq1) hun hkk (by omega) (by omega) (hP.ext (e23.trans e26)) (by omega) hpn) ?_))))))))
   rintro _ v31 ⟨rfl,A32,n33,c34,hb35,ho36,uw37,kp38⟩
   refine ret_intro ?_
   have hw3:UpdW lb w v31:=hw2.then uw37
   have kk39:=(Kept.refl w OA).next kp38 hw2.size
   refine ne_ (cw_region (mv 3 rfl (wl_ar rfl rfl rfl ((ip:Int)-1) (ar_i64s rfl (by omega) (by omega)) (by decide) (mv 1 rfl (wl_call rfl rfl (vs:= [.pointer (some ⟨g,0,none⟩),.slice A30 n30 c30,.int .i64 ((ip:Int)-1),.int .i64 ((k*2^ip:Nat):Int)]) (by kernel_rfl) (by decide) (ih rfl (uw37.signs (hS.ext (e23.trans e26)) hgS) hgS hbl hbu hb35 ho36 hgl (Nat.le_trans hlb hw3.size) (uw37.own o30 (by decide) (by decide)).wi (by rw [j30];exact hr1) hun hkk (by omega) (by rw [own_len ho36,List.length_append,txt_len,len_padTo,←own_len hO];omega) ((hP.ext (e23.trans e26)).updW uw37) (by omega) hpn) ?_)))))
   rintro _ v40 ⟨rfl,A41,n42,c43,hb44,ho45,uw46,kp47⟩
   refine ret_intro ?_
   have hw4:UpdW lb w v40:=hw3.then uw46
   have kk48:=kk39.next kp47 hw3.size
   refine wl_nil (eo_end [] rfl trivial ?_)
   exact⟨rfl,A41,_,_,hb44,(by rw [←txt_two (ip:=ip) (width:=width) hbl hge2 hp2,←hun,←List.append_assoc];exact ho45),hw4,kk48⟩
theorem rx_halves:∀ip,HalvesOk ip
 | 0=>halves_zero
 | ip+1=>halves_step (rx_halves ip)
structure Rune (bs:List Nat) (p r z:Nat):Prop where
 le:r≤2147483647
 low:bs.getD p 0<128→r=bs.getD p 0∧z=1
 high:128≤bs.getD p 0→128≤r
theorem Rune.dv {bs:List Nat}{p r z:Nat}(h:Rune bs p r z):dv r=dv (bs.getD p 0):=by
 by_cases h1:bs.getD p 0<128
 ·rw [(h.low h1).1]
 ·rw [dv_high (h.high (by omega)),dv_high (by omega)]
theorem Rune.one {bs:List Nat}{p r z:Nat}(h:Rune bs p r z) (hd:Go.Proofs.YthggegdkpalgbaaGreatDoor.dv r<36):z=1∧r=bs.getD p 0∧r<128:=by
 by_cases h1:bs.getD p 0<128
 ·exact⟨(h.low h1).2,(h.low h1).1,by rw [(h.low h1).1];exact h1⟩
 ·rw [dv_high (h.high (by omega))] at hd;omega
theorem rune_mk {bs:List Nat}(hb:∀b,b∈bs→b<256){p:Nat}(hp:p<bs.length):Rune bs p (Utf8.decode (strB bs) p).1 (Utf8.decode (strB bs) p).2:=by
 refine⟨decode_le _ _,fun h=>by rw [decode_low hb hp h];exact⟨rfl,rfl⟩,fun h=>?_⟩
 have hs:p<(strB bs).size:=by rw [strB_size];exact hp
 exact (decode_high (strB bs) p hs (by rw [strB_get hb hp hs];exact h)).1
section
variable {P:Program}{Q:Exit→Act→World→Prop}{n:Nat}{l:Fr}{w:World}{ops:Array Oper}{rest:List Oper}{d:Nat}{ty:TypeId}{pos:String}{af:Array Edge}{gd:Option (Nat×Bool)}
theorem wl_nextR {x:Operand}{g p:Nat}{bs:List Nat}(hw:guardB ops l gd=some true) (hx:evo l x=some (.pointer (some ⟨g,0,none⟩))) (hb:∀b,b∈bs→b<256) (h:It w g bs p) (hp:p<bs.length) (hn:d<n)
  (k:∀w' r z,Rune bs p r z→It w' g bs (p+z)→Upd g w w'→wl P ops Q n rest ((d,.tuple #[.bool true,.int .i64 (p:Int),.int .i32 (r:Int)])::l) w'):
  wl P ops Q n (⟨some d,.next x true,ty,pos,af,gd⟩::rest) l w:=
 wl_next hw hx h hp hn fun w' h1 h2=>k w' _ _ (rune_mk hb hp) h1 h2
theorem wl_make80 {x y:Operand}{k:Nat}{t e:TypeId}{z:Value}(hw:guardB ops l gd=some true) (hx:evo l x=some (.int .i64 0)) (hy:evo l y=some (.int .i64 (k:Int))) (ht:P.underlying t=some (.slice e))
  (hinfo:(P.info? e).map (fun i=>(i.zero,i.size,i.bytes))=some (some z,1,1)) (_hz:z.cells= #[z]) (hk:k≤1099511627776) (hd:d<n)
  (h:∀g w',Own w' w.heap.size e 1 (some ⟨g,0,none⟩) 0 k []→Ext w w'→wl P ops Q n rest ((d,.slice (some ⟨g,0,none⟩) 0 k)::l) w'):wl P ops Q n (⟨some d,.makeSlice t x y,ty,pos,af,gd⟩::rest) l w:=by
 obtain⟨i,hi,hz0,hz1,hz2⟩:=info_parts hinfo
 have hr:=run_make (P:=P) w t e i _ ht hi hz0 .i64 .i64 0 (k:Int) (by omega) (by omega) (by rw [hz2];omega) (by omega)
 rw [Int.toNat_natCast,show (0:Int).toNat=0 from rfl,hz1] at hr
 obtain⟨cs,hcs,hcl⟩:∃cs:List Value,madeCells z.cells (k*1)=cs.toArray∧cs.length=k*1:=⟨(madeCells z.cells (k*1)).toList,Array.toArray_toList.symm,by rw [Array.length_toList,size_madeCells]⟩
 rw [hcs] at hr
 refine wl_val hw hd (fun a' ha=>?_) (h _ (w.alloc (.cells cs.toArray e)) (Or.inr ⟨w.heap.size,cs,rfl,Nat.le_refl _,Bk.new _ _ _,Nat.zero_le _,by rw [len_maxLen];omega,hcl,rfl⟩) ((Ext.refl w).alloc _))
 have e':(Instr.makeSlice t (a'.eval x) (a'.eval y)).run P w= .ok (.slice (some ⟨w.heap.size,0,none⟩) 0 k) (w.alloc (.cells cs.toArray e)):=by rw [ha.ev hx,ha.ev hy];exact hr
 show ((Instr.makeSlice t (a'.eval x) (a'.eval y)>>=fun r=>pure (Next.value r):Sem Next)).run P w=_
 rw [Sem.run_bind,e'];rfl
end
theorem cv_u8 {x:Nat}(h:x≤255):Value.int .u8 (IntKind.u8.wrap (x:Int))= .int .u8 (x:Int):=by rw [IntWalk.u8_in _ ⟨by omega,by omega⟩]
theorem ai32_sub {A B:Int}{a b:Nat}(ha:A=(a:Int)) (hb:B=(b:Int)) (h:b≤a) (h2:a≤2147483647):arB .sub .i32 A B=some ((a-b:Nat):Int):=by
 subst ha hb;simp only [arB,Option.some.injEq];rw [show (a:Int)-(b:Int)=((a-b:Nat):Int) by omega,IntWalk.i32_in _ ⟨by omega,by omega⟩]
structure Rb (b:Nat) (w:World) (A:Option Addr) (n c:Nat) (xs:List Nat):Prop where
 rv:Rv w 1 A n c (xs.map B8)
 wf:∀x,x∈xs→x<b
theorem Rb.ext {b:Nat}{w w':World}{A:Option Addr}{n c:Nat}{xs:List Nat}(h:Rb b w A n c xs) (e:Ext w w'):Rb b w' A n c xs:=⟨h.rv.ext e,h.wf⟩
theorem Rb.len {b:Nat}{w:World}{A:Option Addr}{n c:Nat}{xs:List Nat}(h:Rb b w A n c xs):xs.length=n:=by simpa using h.rv.len
theorem Rb.dig {b:Nat}{w:World}{A:Option Addr}{n c i:Nat}{xs:List Nat}(h:Rb b w A n c xs) (hi:i<n):xs.getD i 0<b:=by
 have hl:=h.len
 refine h.wf _ ?_
 rw [List.getD_eq_getElem?_getD,List.getElem?_eq_getElem (by omega)]
 exact List.getElem_mem (by omega)
theorem Rb.at {b:Nat}(_:True){w:World}{A:Option Addr}{n c:Nat}{xs:List Nat}(h:Rb b w A n c xs){i:Nat}(hi:i<n):
  ∃p,A.map (·.add (i*1))=some p∧w.cell? p=some (.int .u8 ((xs.getD i 0:Nat):Int))∧xs.getD i 0<b:=by
 have hl:=h.len
 obtain⟨a,rfl,hc⟩:=h.rv.get i (by omega)
 refine⟨a.add i,by rw [Nat.mul_one];rfl,?_,h.dig hi⟩
 rw [hc,List.getD_eq_getElem?_getD,List.getElem?_map,List.getElem?_eq_getElem (by omega),List.getD_eq_getElem?_getD,List.getElem?_eq_getElem (by omega)]
 rfl
theorem Rb.take {b:Nat}{w:World}{A:Option Addr}{n c k:Nat}{xs:List Nat}(h:Rb b w A n c xs) (hk:k≤n):Rb b w A k c (xs.take k):=by
 have hl:=h.len
 have hle:=h.rv.le
 refine⟨⟨by rw [List.length_map,List.length_take,hl];omega,by omega,h.rv.max,fun i hi=>?_,h.rv.blk⟩,fun x hx=>h.wf x (List.mem_of_mem_take hx)⟩
 obtain⟨a,ha,hc⟩:=h.rv.get i (by omega)
 refine⟨a,ha,hc.trans ?_⟩
 rw [List.map_take,List.getD_eq_getElem?_getD,List.getD_eq_getElem?_getD,List.getElem?_take,if_pos (by omega)]
theorem Rb.drop {b:Nat}{w:World}{A:Option Addr}{n c k:Nat}{xs:List Nat}(h:Rb b w A n c xs) (hk:k≤n):Rb b w (if c=k then A else A.map (·.add (k*1))) (n-k) (c-k) (xs.drop k):=by
 have hle:=h.rv.le
 have hl:=h.len
 refine⟨⟨by rw [List.length_map,List.length_drop,hl,Nat.mul_one],by omega,by have:=h.rv.max;omega,fun i hi=>?_,fun a ha hc=>?_⟩,fun x hx=>h.wf x (List.mem_of_mem_drop hx)⟩
 ·rw [if_neg (by omega)]
  obtain⟨a,rfl,hc⟩:=h.rv.get (k+i) (by omega)
  refine⟨a.add (k*1),rfl,?_⟩
  rw [Nat.mul_one,Addr.add_add,hc]
  simp [List.getD_eq_getElem?_getD,List.getElem?_map,List.getElem?_drop]
 ·rw [if_neg (by omega)] at ha
  cases A with
  | none=>cases ha
  | some p=>
   cases ha
   rw [block_of_add]
   exact h.rv.blk p rfl (by omega)
theorem Own.rb {w:World}{lb b n c:Nat}{A:Option Addr}{xs:List Nat}(h:Own w lb 5 1 A n c (xs.map B8)) (hd:∀x,x∈xs→x<b):Rb b w A n c xs:=⟨h.rv,hd⟩
theorem slice_to8 (A:Option Addr) (c k:Nat):Value.slice (if c=0 then A else A.map (·.add (0*1))) (k-0) (c-0)= .slice A k c:=by
 have h0:A.map (·.add (0*1))=A:=by
  cases A with
  | none=>rfl
  | some a=>simp [Addr.add]
 rw [h0,ite_self];rfl
theorem slice_from (A:Option Addr) (n c k:Nat):Value.slice (if c=k then A else A.map (·.add (k*1))) (n-k) (c-k)= .slice (if c=k then A else A.map (·.add (k*1))) (n-k) (c-k):=rfl
section
variable {w:World}{b:Nat}
theorem rx_MulW (hb:b≤w.heap.size){A B:Option Addr}{n c m d x y:Nat}(hx:Wi w A n c x) (hy:Wi w B m d y) (hN:n+m≤274877906944):Calls Tryz.prog 99 #[.slice A n c,.slice B m d] w (Gv w (WR b (x*y))):=by
 obtain⟨xs,h1,rfl⟩:=hx;obtain⟨ys,h2,rfl⟩:=hy
 exact (mulnat_Mul h1 h2 hN).mono (gw hb)
theorem mulnat_MulAdd {A B C:Option Addr}{n cap m cap' k c:Nat}{xs ys zs:List Nat}(hx:Rd w A n cap xs) (hy:Rd w B m cap' ys) (hz:Rd w C k c zs) (hN:n+m≤274877906944) (hk:k≤1099511627775):
  Calls Tryz.prog 213 #[.slice A n cap,.slice B m cap',.slice C k c] w (RetW w (nv xs*nv ys+nv zs)):=by
 go_enter Tryz.func213,Tryz.ntmps213
 go_wp2_with fail
 refine (mul_product hx hy hN).mono ?_
 rintro e w1 ⟨k1,hk1,g1,z1,rfl,hg1,hb1,hw1,hl1,hv1,hx1⟩
 have hk1b:k1≤n+m:=by
  rw [hk1.out]
  have h1:=len_wd_nv hx.wf
  have h2:=len_wd_nv hy.wf
  rw [hx.len] at h1
  rw [hy.len] at h2
  omega
 go_wp2_with fail
 refine (nat_Add (NewP.rd hb1 hw1 hl1.out (by omega)) (by omega) (hz.ext hx1) hk).mono ?_
 rintro e w2 ⟨A2,n2,c2,rfl,hn2,hr2,ho2,hx2⟩
 go_wp2_with fail
 go_ret
 rw [hv1.out] at hn2 hr2 ho2
 exact⟨A2,n2,c2,rfl,hn2,hr2,ho2.mono hx1.size,hx1.trans hx2⟩
theorem rx_MulAdd (hb:b≤w.heap.size){A B C:Option Addr}{an ac bn bc cn cc x y z:Nat}(hx:Wi w A an ac x) (hy:Wi w B bn bc y) (hz:Wi w C cn cc z) (hN:an+bn≤274877906944) (hcn:cn≤1099511627775):Calls Tryz.prog 213 #[.slice A an ac,.slice B bn bc,.slice C cn cc] w (Gv w (WR b (x*y+z))):=by
 obtain⟨xs,h1,rfl⟩:=hx;obtain⟨ys,h2,rfl⟩:=hy;obtain⟨zs,h3,rfl⟩:=hz
 exact (mulnat_MulAdd h1 h2 h3 hN hcn).mono (gw hb)
theorem rx_AddW (hb:b≤w.heap.size){A B:Option Addr}{n c m d x y:Nat}(hx:Wi w A n c x) (hl:n≤1099511627775) (hy:Wi w B m d y) (hl':m≤1099511627775):Calls Tryz.prog 119 #[.slice A n c,.slice B m d] w (Gv w (WR b (x+y))):=by
 obtain⟨xs,h1,rfl⟩:=hx;obtain⟨ys,h2,rfl⟩:=hy
 exact (nat_Add h1 hl h2 hl').mono (gw hb)
theorem rx_MulWord (hb:b≤w.heap.size){A:Option Addr}{n c x v:Nat}(hx:Wi w A n c x) (hl:n≤137438953472) (hv:v≤18446744073709551615):Calls Tryz.prog 192 #[.slice A n c,.int .u64 (v:Int)] w (Gv w (WR b (x*v))):=by
 obtain⟨xs,h1,rfl⟩:=hx
 exact (mulnat_Word h1 hl hv).mono (gw hb)
theorem rx_LeastW (hb:b≤w.heap.size){A:Option Addr}{n c m:Nat}(hx:Wi w A n c m) (hl:n≤1099511627776):Calls Tryz.prog 115 #[.slice A n c] w (Gv w (WR b m)):=(g_nat_LeastW hx hl).mono (Gv.imp (WR.imp hb))
end
theorem len_vald {b:Nat}(hb:1≤b) (hb2:b≤36){ds:List Nat}(h:∀d,d∈ds→d<b):(wd (vald b ds)).length≤ds.length:=
 len_wd_le (Nat.lt_of_lt_of_le (vald_lt hb ds h) (Nat.pow_le_pow_left (by rw [WB_def];omega) _))
theorem len_pow36 {b n:Nat}(hb2:b≤36):(wd (b^n)).length≤n+1:=
 len_wd_le (Nat.lt_of_le_of_lt (Nat.pow_le_pow_left (show b≤WB by rw [WB_def];omega) n) (Nat.pow_lt_pow_right (show 1<WB by rw [WB_def];omega) (Nat.lt_succ_self n)))
theorem pw_half {p b n:Nat}:p*(b*b)^(n/2)*b^(n%2)=p*b^n:=by
 rw [←Nat.pow_two,←Nat.pow_mul,Nat.mul_assoc,←Nat.pow_add]
 congr 2
 omega
theorem pw_odd {p b n:Nat}(h:n%2=1):p*b*(b*b)^(n/2)=p*b^n:=by
 have:=pw_half (p:=p) (b:=b) (n:=n)
 rw [h,Nat.pow_one] at this
 rw [←this,Nat.mul_assoc,Nat.mul_assoc,Nat.mul_comm b]
theorem pw_even {p b n:Nat}(h:¬n%2=1):p*(b*b)^(n/2)=p*b^n:=by
 have:=pw_half (p:=p) (b:=b) (n:=n)
 rw [show n%2=0 by omega,Nat.pow_zero,Nat.mul_one] at this
 exact this
theorem pw_last {p b c n:Nat}(h:n=1):p*b*c^(n/2)=p*b^n:=by subst h;simp
theorem pw_b {p b n X:Nat}(h:p*b^n=X) (hp:1≤p) (hb:1≤b) (hn:0<n):b≤X:=by
 rw [←h]
 have h1:b^1≤b^n:=Nat.pow_le_pow_right hb hn
 rw [Nat.pow_one] at h1
 exact Nat.le_trans h1 (Nat.le_mul_of_pos_left _ hp)
theorem pw_p {p b n X:Nat}(h:p*b^n=X) (hb:1≤b):p≤X:=by
 rw [←h];exact Nat.le_mul_of_pos_right _ (Nat.pow_pos hb)
theorem vald_piece {b:Nat}{pre xs:List Nat}{k:Nat}(hk:k≤xs.length):vald b (pre++xs.take k)=vald b pre*b^k+vald b (xs.take k):=by
 rw [vald_append,List.length_take,Nat.min_eq_left hk]
theorem take_get {xs:List Nat}{i n:Nat}(h:i<n) (hn:n≤xs.length):xs.take (i+1)=xs.take i++ [(xs.take n).getD i 0]:=by
 rw [List.take_add_one,List.getD_eq_getElem?_getD,List.getElem?_take,if_pos h,List.getElem?_eq_getElem (by omega)]
 rfl
set_option maxHeartbeats 4000000 in
theorem rx_value {w:World}{c:Nat}(hc:c≤2147483647):
    Calls Tryz.prog 189 #[.int .i32 ((c:Nat):Int)] w (Gv w (Is (.int .i64 ((dv c:Nat):Int)))):=by
 refine sx_enter Tryz.func189 rfl (n:=35) rfl (bq rfl) (args:= [.int .i32 ((c:Nat):Int)]) (cw_keep [(0,.int .i32 ((c:Nat):Int))] ⟨rfl,trivial⟩ (sr (mv 1 rfl (ne_ (cw_seq (cw_block (cw_seq ?_)))))))
 by_cases ha48:c≥48
 · 
  by_cases hb57:c≤57
  · 
   refine cw_region (mv 1 rfl (wl_cmp rfl rfl rfl true (cb_ge_t (a:=c) (b:=48) rfl rfl (by omega)) (by decide) (mv 2 rfl (wl_cmp rfl rfl rfl true (cb_le_t (a:=c) (b:=57) rfl rfl (by omega)) (by decide) (pu (v:= .bool true) rfl (by kernel_rfl) (mv 1 rfl (ne_ (cw_true rfl (sr (mv 1 rfl (wl_ar rfl rfl rfl ((c-48:Nat):Int) (ai32_sub (a:=c) (b:=48) rfl rfl (by omega) (by omega)) (by decide) (wl_pureE rfl rfl (v:= .int .i64 (IntKind.i64.wrap ((c-48:Nat):Int))) (v':= .int .i64 ((c-48:Nat):Int)) (by decide) (by kernel_rfl) (cv_i64 (by first | omega | exact hle64)) (mv 1 rfl ?_)))))))))))))
   refine ne_ (cw_ret (eo_block_ret (eo_thenR (eo_ret [.int .i64 ((c-48:Nat):Int)] rfl ⟨rfl,trivial⟩ ?_))))
   have hv:c-48=dv c:=by unfold dv;(repeat' split) <;> omega
   exact⟨_,rfl,(show Value.int .i64 ((c-48:Nat):Int)=_ by rw [hv]),(Ext.refl w)⟩
  · 
   refine cw_region (mv 1 rfl (wl_cmp rfl rfl rfl true (cb_ge_t (a:=c) (b:=48) rfl rfl (by omega)) (by decide) (mv 2 rfl (wl_cmp rfl rfl rfl false (cb_le_f (a:=c) (b:=57) rfl rfl (by omega)) (by decide) (pu (v:= .bool false) rfl (by kernel_rfl) (mv 1 rfl (ne_ (cw_false rfl (cw_seq ?_)))))))))
   by_cases ha97:c≥97
   · 
    by_cases hb122:c≤122
    · 
     refine cw_region (mv 1 rfl (wl_cmp rfl rfl rfl true (cb_ge_t (a:=c) (b:=97) rfl rfl (by omega)) (by decide) (mv 2 rfl (wl_cmp rfl rfl rfl true (cb_le_t (a:=c) (b:=122) rfl rfl (by omega)) (by decide) (pu (v:= .bool true) rfl (by kernel_rfl) (mv 1 rfl (ne_ (cw_true rfl (sr (mv 1 rfl (wl_ar rfl rfl rfl ((c-97:Nat):Int) (ai32_sub (a:=c) (b:=97) rfl rfl (by omega) (by omega)) (by decide) (wl_pureE rfl rfl (v:= .int .i64 (IntKind.i64.wrap ((c-97:Nat):Int))) (v':= .int .i64 ((c-97:Nat):Int)) (by decide) (by kernel_rfl) (cv_i64 (by first | omega | exact hle64)) (wl_ar rfl rfl rfl (((c-97)+10:Nat):Int) (ai_add (a:=c-97) (b:=10) rfl rfl (by omega)) (by decide) ?_)))))))))))))
     refine mv 1 rfl (ne_ (cw_ret (eo_block_ret (eo_thenR (eo_ret [.int .i64 (((c-97)+10:Nat):Int)] rfl ⟨rfl,trivial⟩ ?_)))))
     have hv:(c-97)+10=dv c:=by unfold dv;(repeat' split) <;> omega
     exact⟨_,rfl,(show Value.int .i64 (((c-97)+10:Nat):Int)=_ by rw [hv]),(Ext.refl w)⟩
    · 
     refine cw_region (mv 1 rfl (wl_cmp rfl rfl rfl true (cb_ge_t (a:=c) (b:=97) rfl rfl (by omega)) (by decide) (mv 2 rfl (wl_cmp rfl rfl rfl false (cb_le_f (a:=c) (b:=122) rfl rfl (by omega)) (by decide) (pu (v:= .bool false) rfl (by kernel_rfl) (mv 1 rfl (ne_ (cw_false rfl (cw_seq ?_)))))))))
     by_cases ha65:c≥65
     · 
      by_cases hb90:c≤90
      · 
       refine cw_region (mv 1 rfl (wl_cmp rfl rfl rfl true (cb_ge_t (a:=c) (b:=65) rfl rfl (by omega)) (by decide) (mv 2 rfl (wl_cmp rfl rfl rfl true (cb_le_t (a:=c) (b:=90) rfl rfl (by omega)) (by decide) (pu (v:= .bool true) rfl (by kernel_rfl) (mv 1 rfl (ne_ (cw_true rfl (sr (mv 1 rfl (wl_ar rfl rfl rfl ((c-65:Nat):Int) (ai32_sub (a:=c) (b:=65) rfl rfl (by omega) (by omega)) (by decide) (wl_pureE rfl rfl (v:= .int .i64 (IntKind.i64.wrap ((c-65:Nat):Int))) (v':= .int .i64 ((c-65:Nat):Int)) (by decide) (by kernel_rfl) (cv_i64 (by first | omega | exact hle64)) (wl_ar rfl rfl rfl (((c-65)+10:Nat):Int) (ai_add (a:=c-65) (b:=10) rfl rfl (by omega)) (by decide) ?_)))))))))))))
       refine mv 1 rfl (ne_ (cw_ret (eo_block_ret (eo_thenR (eo_ret [.int .i64 (((c-65)+10:Nat):Int)] rfl ⟨rfl,trivial⟩ ?_)))))
       have hv:(c-65)+10=dv c:=by unfold dv;(repeat' split) <;> omega
       exact⟨_,rfl,(show Value.int .i64 (((c-65)+10:Nat):Int)=_ by rw [hv]),(Ext.refl w)⟩
      · 
       refine cw_region (mv 1 rfl (wl_cmp rfl rfl rfl true (cb_ge_t (a:=c) (b:=65) rfl rfl (by omega)) (by decide) (mv 2 rfl (wl_cmp rfl rfl rfl false (cb_le_f (a:=c) (b:=90) rfl rfl (by omega)) (by decide) (pu (v:= .bool false) rfl (by kernel_rfl) (mv 1 rfl (ne_ (cw_false rfl (cw_skip (eo_block_normal (eo_then (sr (mv 1 rfl ?_)))))))))))))
       refine ne_ (cw_ret (eo_ret [.int .i64 36] rfl ⟨rfl,trivial⟩ ?_))
       have hv:36=dv c:=by unfold dv;(repeat' split) <;> omega
       exact⟨_,rfl,(show Value.int .i64 ((36:Nat):Int)=_ by rw [hv]),(Ext.refl w)⟩
     · 
      refine cw_region (mv 1 rfl (wl_cmp rfl rfl rfl false (cb_ge_f (a:=c) (b:=65) rfl rfl (by omega)) (by decide) (mv 3 rfl (pu (v:= .bool false) rfl (by kernel_rfl) (mv 1 rfl (ne_ (cw_false rfl (cw_skip (eo_block_normal (eo_then (sr (mv 1 rfl (wl_nil ?_)))))))))))))
      refine eo_then (cw_ret (eo_ret [.int .i64 36] rfl ⟨rfl,trivial⟩ ?_))
      have hv:36=dv c:=by unfold dv;(repeat' split) <;> omega
      exact⟨_,rfl,(show Value.int .i64 ((36:Nat):Int)=_ by rw [hv]),(Ext.refl w)⟩
   · 
    refine cw_region (mv 1 rfl (wl_cmp rfl rfl rfl false (cb_ge_f (a:=c) (b:=97) rfl rfl (by omega)) (by decide) (mv 3 rfl (pu (v:= .bool false) rfl (by kernel_rfl) (mv 1 rfl (ne_ (cw_false rfl (cw_seq ?_))))))))
    by_cases ha65:c≥65
    · 
     by_cases hb90:c≤90
     · 
      refine cw_region (mv 1 rfl (wl_cmp rfl rfl rfl true (cb_ge_t (a:=c) (b:=65) rfl rfl (by omega)) (by decide) (mv 2 rfl (wl_cmp rfl rfl rfl true (cb_le_t (a:=c) (b:=90) rfl rfl (by omega)) (by decide) (pu (v:= .bool true) rfl (by kernel_rfl) (mv 1 rfl (ne_ (cw_true rfl (sr (mv 1 rfl (wl_ar rfl rfl rfl ((c-65:Nat):Int) (ai32_sub (a:=c) (b:=65) rfl rfl (by omega) (by omega)) (by decide) (wl_pureE rfl rfl (v:= .int .i64 (IntKind.i64.wrap ((c-65:Nat):Int))) (v':= .int .i64 ((c-65:Nat):Int)) (by decide) (by kernel_rfl) (cv_i64 (by first | omega | exact hle64)) (wl_ar rfl rfl rfl (((c-65)+10:Nat):Int) (ai_add (a:=c-65) (b:=10) rfl rfl (by omega)) (by decide) ?_)))))))))))))
      refine mv 1 rfl (ne_ (cw_ret (eo_block_ret (eo_thenR (eo_ret [.int .i64 (((c-65)+10:Nat):Int)] rfl ⟨rfl,trivial⟩ ?_)))))
      have hv:(c-65)+10=dv c:=by unfold dv;(repeat' split) <;> omega
      exact⟨_,rfl,(show Value.int .i64 (((c-65)+10:Nat):Int)=_ by rw [hv]),(Ext.refl w)⟩
     · 
      refine cw_region (mv 1 rfl (wl_cmp rfl rfl rfl true (cb_ge_t (a:=c) (b:=65) rfl rfl (by omega)) (by decide) (mv 2 rfl (wl_cmp rfl rfl rfl false (cb_le_f (a:=c) (b:=90) rfl rfl (by omega)) (by decide) (pu (v:= .bool false) rfl (by kernel_rfl) (mv 1 rfl (ne_ (cw_false rfl (cw_skip (eo_block_normal (eo_then (sr (mv 1 rfl ?_)))))))))))))
      refine ne_ (cw_ret (eo_ret [.int .i64 36] rfl ⟨rfl,trivial⟩ ?_))
      have hv:36=dv c:=by unfold dv;(repeat' split) <;> omega
      exact⟨_,rfl,(show Value.int .i64 ((36:Nat):Int)=_ by rw [hv]),(Ext.refl w)⟩
    · 
     refine cw_region (mv 1 rfl (wl_cmp rfl rfl rfl false (cb_ge_f (a:=c) (b:=65) rfl rfl (by omega)) (by decide) (mv 3 rfl (pu (v:= .bool false) rfl (by kernel_rfl) (mv 1 rfl (ne_ (cw_false rfl (cw_skip (eo_block_normal (eo_then (sr (mv 1 rfl (wl_nil ?_)))))))))))))
     refine eo_then (cw_ret (eo_ret [.int .i64 36] rfl ⟨rfl,trivial⟩ ?_))
     have hv:36=dv c:=by unfold dv;(repeat' split) <;> omega
     exact⟨_,rfl,(show Value.int .i64 ((36:Nat):Int)=_ by rw [hv]),(Ext.refl w)⟩
 · 
  refine cw_region (mv 1 rfl (wl_cmp rfl rfl rfl false (cb_ge_f (a:=c) (b:=48) rfl rfl (by omega)) (by decide) (mv 3 rfl (pu (v:= .bool false) rfl (by kernel_rfl) (mv 1 rfl (ne_ (cw_false rfl (cw_seq ?_))))))))
  by_cases ha97:c≥97
  · 
   by_cases hb122:c≤122
   · 
    refine cw_region (mv 1 rfl (wl_cmp rfl rfl rfl true (cb_ge_t (a:=c) (b:=97) rfl rfl (by omega)) (by decide) (mv 2 rfl (wl_cmp rfl rfl rfl true (cb_le_t (a:=c) (b:=122) rfl rfl (by omega)) (by decide) (pu (v:= .bool true) rfl (by kernel_rfl) (mv 1 rfl (ne_ (cw_true rfl (sr (mv 1 rfl (wl_ar rfl rfl rfl ((c-97:Nat):Int) (ai32_sub (a:=c) (b:=97) rfl rfl (by omega) (by omega)) (by decide) (wl_pureE rfl rfl (v:= .int .i64 (IntKind.i64.wrap ((c-97:Nat):Int))) (v':= .int .i64 ((c-97:Nat):Int)) (by decide) (by kernel_rfl) (cv_i64 (by first | omega | exact hle64)) (wl_ar rfl rfl rfl (((c-97)+10:Nat):Int) (ai_add (a:=c-97) (b:=10) rfl rfl (by omega)) (by decide) ?_)))))))))))))
    refine mv 1 rfl (ne_ (cw_ret (eo_block_ret (eo_thenR (eo_ret [.int .i64 (((c-97)+10:Nat):Int)] rfl ⟨rfl,trivial⟩ ?_)))))
    have hv:(c-97)+10=dv c:=by unfold dv;(repeat' split) <;> omega
    exact⟨_,rfl,(show Value.int .i64 (((c-97)+10:Nat):Int)=_ by rw [hv]),(Ext.refl w)⟩
   · 
    refine cw_region (mv 1 rfl (wl_cmp rfl rfl rfl true (cb_ge_t (a:=c) (b:=97) rfl rfl (by omega)) (by decide) (mv 2 rfl (wl_cmp rfl rfl rfl false (cb_le_f (a:=c) (b:=122) rfl rfl (by omega)) (by decide) (pu (v:= .bool false) rfl (by kernel_rfl) (mv 1 rfl (ne_ (cw_false rfl (cw_seq ?_)))))))))
    by_cases ha65:c≥65
    · 
     by_cases hb90:c≤90
     · 
      refine cw_region (mv 1 rfl (wl_cmp rfl rfl rfl true (cb_ge_t (a:=c) (b:=65) rfl rfl (by omega)) (by decide) (mv 2 rfl (wl_cmp rfl rfl rfl true (cb_le_t (a:=c) (b:=90) rfl rfl (by omega)) (by decide) (pu (v:= .bool true) rfl (by kernel_rfl) (mv 1 rfl (ne_ (cw_true rfl (sr (mv 1 rfl (wl_ar rfl rfl rfl ((c-65:Nat):Int) (ai32_sub (a:=c) (b:=65) rfl rfl (by omega) (by omega)) (by decide) (wl_pureE rfl rfl (v:= .int .i64 (IntKind.i64.wrap ((c-65:Nat):Int))) (v':= .int .i64 ((c-65:Nat):Int)) (by decide) (by kernel_rfl) (cv_i64 (by first | omega | exact hle64)) (wl_ar rfl rfl rfl (((c-65)+10:Nat):Int) (ai_add (a:=c-65) (b:=10) rfl rfl (by omega)) (by decide) ?_)))))))))))))
      refine mv 1 rfl (ne_ (cw_ret (eo_block_ret (eo_thenR (eo_ret [.int .i64 (((c-65)+10:Nat):Int)] rfl ⟨rfl,trivial⟩ ?_)))))
      have hv:(c-65)+10=dv c:=by unfold dv;(repeat' split) <;> omega
      exact⟨_,rfl,(show Value.int .i64 (((c-65)+10:Nat):Int)=_ by rw [hv]),(Ext.refl w)⟩
     · 
      refine cw_region (mv 1 rfl (wl_cmp rfl rfl rfl true (cb_ge_t (a:=c) (b:=65) rfl rfl (by omega)) (by decide) (mv 2 rfl (wl_cmp rfl rfl rfl false (cb_le_f (a:=c) (b:=90) rfl rfl (by omega)) (by decide) (pu (v:= .bool false) rfl (by kernel_rfl) (mv 1 rfl (ne_ (cw_false rfl (cw_skip (eo_block_normal (eo_then (sr (mv 1 rfl ?_)))))))))))))
      refine ne_ (cw_ret (eo_ret [.int .i64 36] rfl ⟨rfl,trivial⟩ ?_))
      have hv:36=dv c:=by unfold dv;(repeat' split) <;> omega
      exact⟨_,rfl,(show Value.int .i64 ((36:Nat):Int)=_ by rw [hv]),(Ext.refl w)⟩
    · 
     refine cw_region (mv 1 rfl (wl_cmp rfl rfl rfl false (cb_ge_f (a:=c) (b:=65) rfl rfl (by omega)) (by decide) (mv 3 rfl (pu (v:= .bool false) rfl (by kernel_rfl) (mv 1 rfl (ne_ (cw_false rfl (cw_skip (eo_block_normal (eo_then (sr (mv 1 rfl (wl_nil ?_)))))))))))))
     refine eo_then (cw_ret (eo_ret [.int .i64 36] rfl ⟨rfl,trivial⟩ ?_))
     have hv:36=dv c:=by unfold dv;(repeat' split) <;> omega
     exact⟨_,rfl,(show Value.int .i64 ((36:Nat):Int)=_ by rw [hv]),(Ext.refl w)⟩
  · 
   refine cw_region (mv 1 rfl (wl_cmp rfl rfl rfl false (cb_ge_f (a:=c) (b:=97) rfl rfl (by omega)) (by decide) (mv 3 rfl (pu (v:= .bool false) rfl (by kernel_rfl) (mv 1 rfl (ne_ (cw_false rfl (cw_seq ?_))))))))
   by_cases ha65:c≥65
   · 
    by_cases hb90:c≤90
    · 
     refine cw_region (mv 1 rfl (wl_cmp rfl rfl rfl true (cb_ge_t (a:=c) (b:=65) rfl rfl (by omega)) (by decide) (mv 2 rfl (wl_cmp rfl rfl rfl true (cb_le_t (a:=c) (b:=90) rfl rfl (by omega)) (by decide) (pu (v:= .bool true) rfl (by kernel_rfl) (mv 1 rfl (ne_ (cw_true rfl (sr (mv 1 rfl (wl_ar rfl rfl rfl ((c-65:Nat):Int) (ai32_sub (a:=c) (b:=65) rfl rfl (by omega) (by omega)) (by decide) (wl_pureE rfl rfl (v:= .int .i64 (IntKind.i64.wrap ((c-65:Nat):Int))) (v':= .int .i64 ((c-65:Nat):Int)) (by decide) (by kernel_rfl) (cv_i64 (by first | omega | exact hle64)) (wl_ar rfl rfl rfl (((c-65)+10:Nat):Int) (ai_add (a:=c-65) (b:=10) rfl rfl (by omega)) (by decide) ?_)))))))))))))
     refine mv 1 rfl (ne_ (cw_ret (eo_block_ret (eo_thenR (eo_ret [.int .i64 (((c-65)+10:Nat):Int)] rfl ⟨rfl,trivial⟩ ?_)))))
     have hv:(c-65)+10=dv c:=by unfold dv;(repeat' split) <;> omega
     exact⟨_,rfl,(show Value.int .i64 (((c-65)+10:Nat):Int)=_ by rw [hv]),(Ext.refl w)⟩
    · 
     refine cw_region (mv 1 rfl (wl_cmp rfl rfl rfl true (cb_ge_t (a:=c) (b:=65) rfl rfl (by omega)) (by decide) (mv 2 rfl (wl_cmp rfl rfl rfl false (cb_le_f (a:=c) (b:=90) rfl rfl (by omega)) (by decide) (pu (v:= .bool false) rfl (by kernel_rfl) (mv 1 rfl (ne_ (cw_false rfl (cw_skip (eo_block_normal (eo_then (sr (mv 1 rfl ?_)))))))))))))
     refine ne_ (cw_ret (eo_ret [.int .i64 36] rfl ⟨rfl,trivial⟩ ?_))
     have hv:36=dv c:=by unfold dv;(repeat' split) <;> omega
     exact⟨_,rfl,(show Value.int .i64 ((36:Nat):Int)=_ by rw [hv]),(Ext.refl w)⟩
   · 
    refine cw_region (mv 1 rfl (wl_cmp rfl rfl rfl false (cb_ge_f (a:=c) (b:=65) rfl rfl (by omega)) (by decide) (mv 3 rfl (pu (v:= .bool false) rfl (by kernel_rfl) (mv 1 rfl (ne_ (cw_false rfl (cw_skip (eo_block_normal (eo_then (sr (mv 1 rfl (wl_nil ?_)))))))))))))
    refine eo_then (cw_ret (eo_ret [.int .i64 36] rfl ⟨rfl,trivial⟩ ?_))
    have hv:36=dv c:=by unfold dv;(repeat' split) <;> omega
    exact⟨_,rfl,(show Value.int .i64 ((36:Nat):Int)=_ by rw [hv]),(Ext.refl w)⟩
set_option maxHeartbeats 4000000 in
theorem rx_powerI {w:World}{base n:Nat}(hbl:2≤base) (hbu:base≤36) (hn:n≤68719476736):
    Calls Tryz.prog 214 #[.int .i64 ((base:Nat):Int),.int .i64 ((n:Nat):Int)] w (Gv w (WR w.heap.size (base^n))):=by
 refine sx_enter Tryz.func214 rfl (n:=26) rfl (bq rfl) (args:= [.int .i64 ((base:Nat):Int),.int .i64 ((n:Nat):Int)]) (cw_keep [(0,.int .i64 ((base:Nat):Int)),(1,.int .i64 ((n:Nat):Int))] ⟨rfl,rfl,trivial⟩ (sr (mv 1 rfl (ne_ (sr (wl_bslice rfl rfl (by decide) (k:=1) (e:=67) [.int .u64 1] (fun _=>by kernel_rfl) fun g1 v2 nb3=>?_))))))
 have o4:=O1.mk_ (x:=1) (b:=w.heap.size) nb3 (Ext.refl w).size
 have e5:=nb3.ext
 have hw1:=(Ext.refl w).trans e5
 have o7:=own1_wd o4 (show 1≤18446744073709551615 by decide) (show 1≠0 by decide)
 have j6:=len1 (show 1≤18446744073709551615 by decide) (show 1≠0 by decide)
 refine mv 1 rfl (wl_pureE rfl rfl (v:= .int .u64 (IntKind.u64.wrap ((base:Nat):Int))) (v':= .int .u64 ((base:Nat):Int)) (by decide) (by kernel_rfl) (cv_u64 (by first | omega | exact hle64)) (wl_bslice rfl rfl (by decide) (k:=1) (e:=67) [.int .u64 ((base:Nat):Int)] (fun _=>by kernel_rfl) fun g8 v9 nb10=>?_))
 have o11:=O1.mk_ (x:=base) (b:=w.heap.size) nb10 hw1.size
 have e12:=nb10.ext
 have hw2:=hw1.trans e12
 have o14:=own1_wd o11 (show base≤18446744073709551615 by omega) (show base≠0 by omega)
 have j13:=len1 (show base≤18446744073709551615 by omega) (show base≠0 by omega)
 refine mv 2 rfl (ne_ (cw_seq (cw_block ?_)))
 refine cw_loop (T:=World×Nat×Nat×Nat×Option Addr×Nat×Nat×Option Addr×Nat×Nat)
  (fun⟨wr,e,p,b,PA,pn,pc,BA,bn,bc⟩=> [(0,.int .i64 ((base:Nat):Int)),(1,.int .i64 ((e:Nat):Int)),(5,.slice PA pn pc),(6,.slice BA bn bc)])
  (fun⟨wr,e,p,b,PA,pn,pc,BA,bn,bc⟩=>wr)
  (fun⟨wr,e,p,b,PA,pn,pc,BA,bn,bc⟩=>(Ext w wr)∧(p*b^e=base^n)∧(1≤p)∧(1≤b)∧(pn=(wd p).length)∧(bn=(wd b).length)∧(Own wr w.heap.size 67 1 PA pn pc ((wd p).map W64))∧(Own wr w.heap.size 67 1 BA bn bc ((wd b).map W64))∧(e≤n))
  (fun⟨wr,e,p,b,PA,pn,pc,BA,bn,bc⟩=>e)
  (⟨v9,n,1,base,(some ⟨g1,0,none⟩),1,1,(some ⟨g8,0,none⟩),1,1⟩:World×Nat×Nat×Nat×Option Addr×Nat×Nat×Option Addr×Nat×Nat) ⟨hw2,(by rw [Nat.one_mul]),(by decide),(by omega),j6,j13,(o7.ext e12),o14,(Nat.le_refl _)⟩ rfl ⟨rfl,rfl,rfl,rfl,trivial⟩ ?_
 rintro⟨wr,e,p,b,PA,pn,pc,BA,bn,bc⟩ ⟨hw1,hI,hp1,hb1,hpn,hbn,hpo,hbo,he⟩
 refine cw_re [(0,.int .i64 ((base:Nat):Int)),(1,.int .i64 ((e:Nat):Int)),(5,.slice PA pn pc),(6,.slice BA bn bc)] wr rfl ⟨rfl,rfl,rfl,rfl,trivial⟩ (cw_seq (cw_seq ?_))
 by_cases he0:e>0
 · 
  have hpK:=Nat.le_trans (len_wd_mono (pw_p hI hb1)) (len_pow36 (n:=n) hbu)
  have hbK:=Nat.le_trans (len_wd_mono (pw_b hI hp1 hb1 he0)) (len_pow36 (n:=n) hbu)
  refine cw_region (mv 1 rfl (wl_cmp rfl rfl rfl true (cb_gt_t (a:=e) (b:=0) rfl rfl (by omega)) (by decide) (ne_ (cw_true rfl (cw_skip (eo_then (cw_seq (cw_block (cw_seq (cw_seq ?_))))))))))
  by_cases ho:e%2=1
  · 
   refine cw_region (mv 1 rfl (wl_ar rfl rfl rfl ((e%2:Nat):Int) (au_rem (a:=e) (b:=2) rfl rfl (by omega)) (by decide) (wl_cmp rfl rfl rfl true (cb_eq_t (a:=e%2) (b:=1) rfl rfl (by omega)) (by decide) (ne_ (cw_true rfl (cw_region (mv 2 rfl (cl (vs:= [.slice PA pn pc,.slice BA bn bc]) hw1 (rx_MulW hw1.size hpo.wi hbo.wi (by omega)) rfl (by kernel_rfl) fun xr17 v15 r17 e16 hw2=>?_))))))))
   obtain⟨A18,n18,c18,rfl,j18,o18⟩:=r17
   refine mv 1 rfl (ne_ (cw_seq ?_))
   by_cases hg:e>1
   · 
    refine cw_region (mv 1 rfl (wl_cmp rfl rfl rfl true (cb_gt_t (a:=e) (b:=1) rfl rfl (by omega)) (by decide) (ne_ (cw_true rfl (cw_region (mv 1 rfl (cl (vs:= [.slice BA bn bc]) hw2 (rx_Square hw2.size (hbo.ext e16).wi (by omega)) rfl (by kernel_rfl) fun xr21 v19 r21 e20 hw3=>?_)))))))
    obtain⟨A22,n22,c22,rfl,j22,o22⟩:=r21
    refine mv 1 rfl (wl_nil (eo_block_normal (eo_then (cw_region (mv 1 rfl (wl_ar rfl rfl rfl ((e/2:Nat):Int) (ai_quo (a:=e) (b:=2) rfl rfl (by omega) (by omega)) (by decide) (mv 1 rfl (wl_nil (eo_round (⟨v19,e/2,p*b,b*b,A18,n18,c18,A22,n22,c22⟩:World×Nat×Nat×Nat×Option Addr×Nat×Nat×Option Addr×Nat×Nat) ⟨hw3,(by rw [pw_odd ho];exact hI),(by first | decide | omega | exact Nat.mul_pos hp1 hb1),(by first | assumption | exact Nat.mul_pos hb1 hb1),j18,j22,(o18.ext e20),o22,(Nat.le_trans (Nat.div_le_self _ _) he)⟩ (Nat.div_lt_self he0 (by decide)) rfl ⟨rfl,rfl,rfl,rfl,trivial⟩)))))))))
   · 
    refine cw_region (mv 1 rfl (wl_cmp rfl rfl rfl false (cb_gt_f (a:=e) (b:=1) rfl rfl (by omega)) (by decide) (ne_ (cw_false rfl (cw_skip (eo_block_normal (eo_then (cw_region (mv 1 rfl (wl_ar rfl rfl rfl ((e/2:Nat):Int) (ai_quo (a:=e) (b:=2) rfl rfl (by omega) (by omega)) (by decide) (mv 1 rfl (wl_nil (eo_round (⟨v15,e/2,p*b,b,A18,n18,c18,BA,bn,bc⟩:World×Nat×Nat×Nat×Option Addr×Nat×Nat×Option Addr×Nat×Nat) ⟨hw2,(by rw [pw_last (by omega)];exact hI),(by first | decide | omega | exact Nat.mul_pos hp1 hb1),(by first | assumption | exact Nat.mul_pos hb1 hb1),j18,hbn,o18,(hbo.ext e16),(Nat.le_trans (Nat.div_le_self _ _) he)⟩ (Nat.div_lt_self he0 (by decide)) rfl ⟨rfl,rfl,rfl,rfl,trivial⟩)))))))))))))
  · 
   refine cw_region (mv 1 rfl (wl_ar rfl rfl rfl ((e%2:Nat):Int) (au_rem (a:=e) (b:=2) rfl rfl (by omega)) (by decide) (wl_cmp rfl rfl rfl false (cb_eq_f (a:=e%2) (b:=1) rfl rfl (by omega)) (by decide) (ne_ (cw_false rfl (cw_skip (eo_then (cw_seq ?_))))))))
   by_cases hg:e>1
   · 
    refine cw_region (mv 1 rfl (wl_cmp rfl rfl rfl true (cb_gt_t (a:=e) (b:=1) rfl rfl (by omega)) (by decide) (ne_ (cw_true rfl (cw_region (mv 1 rfl (cl (vs:= [.slice BA bn bc]) hw1 (rx_Square hw1.size hbo.wi (by omega)) rfl (by kernel_rfl) fun xr25 v23 r25 e24 hw2=>?_)))))))
    obtain⟨A26,n26,c26,rfl,j26,o26⟩:=r25
    refine mv 1 rfl (wl_nil (eo_block_normal (eo_then (cw_region (mv 1 rfl (wl_ar rfl rfl rfl ((e/2:Nat):Int) (ai_quo (a:=e) (b:=2) rfl rfl (by omega) (by omega)) (by decide) (mv 1 rfl (wl_nil (eo_round (⟨v23,e/2,p,b*b,PA,pn,pc,A26,n26,c26⟩:World×Nat×Nat×Nat×Option Addr×Nat×Nat×Option Addr×Nat×Nat) ⟨hw2,(by rw [pw_even ho];exact hI),(by first | decide | omega | exact Nat.mul_pos hp1 hb1),(by first | assumption | exact Nat.mul_pos hb1 hb1),hpn,j26,(hpo.ext e24),o26,(Nat.le_trans (Nat.div_le_self _ _) he)⟩ (Nat.div_lt_self he0 (by decide)) rfl ⟨rfl,rfl,rfl,rfl,trivial⟩)))))))))
   · 
    refine cw_region (mv 1 rfl (wl_cmp rfl rfl rfl false (cb_gt_f (a:=e) (b:=1) rfl rfl (by omega)) (by decide) (ne_ (cw_false rfl (cw_skip (eo_block_normal (eo_then (cw_region (mv 1 rfl (wl_ar rfl rfl rfl ((e/2:Nat):Int) (ai_quo (a:=e) (b:=2) rfl rfl (by omega) (by omega)) (by decide) (mv 1 rfl (wl_nil (eo_round (⟨wr,e/2,p,b,PA,pn,pc,BA,bn,bc⟩:World×Nat×Nat×Nat×Option Addr×Nat×Nat×Option Addr×Nat×Nat) ⟨hw1,(by omega),(by first | decide | omega | exact Nat.mul_pos hp1 hb1),(by first | assumption | exact Nat.mul_pos hb1 hb1),hpn,hbn,hpo,hbo,(Nat.le_trans (Nat.div_le_self _ _) he)⟩ (Nat.div_lt_self he0 (by decide)) rfl ⟨rfl,rfl,rfl,rfl,trivial⟩)))))))))))))
 · 
  refine cw_region (mv 1 rfl (wl_cmp rfl rfl rfl false (cb_gt_f (a:=e) (b:=0) rfl rfl (by omega)) (by decide) (ne_ (cw_false rfl (cw_exit (eo_thenX (eo_loopX (eo_block_here (eo_then (sr (mv 2 rfl (ne_ (cw_ret ?_)))))))))))))
  refine eo_ret [.slice PA pn pc] rfl ⟨rfl,trivial⟩ ?_
  have e0:e=0:=by omega
  subst e0
  rw [Nat.pow_zero,Nat.mul_one] at hI
  subst hI
  exact⟨_,rfl,⟨_,_,_,rfl,hpn,hpo⟩,hw1⟩
theorem vald_split {b n k:Nat}{ds:List Nat}(hl:ds.length=n) (hk:k≤n):vald b (ds.take (n-k))*b^k+vald b (ds.drop (n-k))=vald b ds:=by
 have h:=vald_append b (ds.take (n-k)) (ds.drop (n-k))
 rw [List.take_append_drop,List.length_drop,hl,show n-(n-k)=k by omega] at h
 exact h.symm
theorem PieceK.pos {b k:Nat}(h:PieceK b k) (hb:b≤36):1≤k:=by
 rcases Nat.eq_zero_or_pos k with e | e
 ·have:=h.gt;rw [e,Nat.zero_add,Nat.pow_one] at this;omega
 ·exact e
theorem step_ok {b k i v x:Nat}(hk:PieceK b k) (hb:1≤b) (hi:i+1≤k) (hv:v<b^i) (hx:x<b):v*b+x≤18446744073709551615∧b^i*b≤18446744073709551615:=by
 have h1:b^(i+1)≤b^k:=Nat.pow_le_pow_right hb hi
 rw [Nat.pow_succ] at h1
 have h2:=hk.le
 have h3:(v+1)*b≤b^i*b:=Nat.mul_le_mul_right b hv
 rw [Nat.add_mul,Nat.one_mul] at h3
 exact⟨by omega,by omega⟩
theorem len_one {x:Nat}(h:x≤18446744073709551615):(wd x).length≤1:=len_wd_le (by rw [Nat.pow_one,WB_def];omega)
theorem mem_take_lt {b:Nat}{xs:List Nat}(h:∀x,x∈xs→x<b) (k:Nat):∀x,x∈xs.take k→x<b:=fun x hx=>h x (List.mem_of_mem_take hx)
theorem mem_drop_lt {b:Nat}{xs:List Nat}(h:∀x,x∈xs→x<b) (k:Nat):∀x,x∈xs.drop k→x<b:=fun x hx=>h x (List.mem_of_mem_drop hx)
def NumOk (N:Nat):Prop:=∀{w:World}{A:Option Addr}{n c base:Nat}{ds:List Nat},n≤N→2≤base→base≤36→Rb base w A n c ds→n≤17179869184→
 Calls Tryz.prog 190 #[.slice A n c,.int .i64 ((base:Nat):Int)] w (Gv w (WR w.heap.size (vald base ds)))
set_option maxHeartbeats 4000000 in
theorem rx_number_big {N:Nat}(ih:NumOk N){w:World}{A:Option Addr}{n c base:Nat}{ds:List Nat}(hnN:n≤N+1) (hbl:2≤base) (hbu:base≤36) (hd:Rb base w A n c ds) (hn:n≤17179869184) (hbig:200<n):
    Calls Tryz.prog 190 #[.slice A n c,.int .i64 ((base:Nat):Int)] w (Gv w (WR w.heap.size (vald base ds))):=by
 have hB1:(wd (vald base (ds.take (n-(n/2))))).length≤n:=by have:=len_vald (by omega) hbu (mem_take_lt hd.wf (n-(n/2)));rw [List.length_take,hd.len] at this;omega
 have hB2:(wd (vald base (ds.drop (n-(n/2))))).length≤n:=by have:=len_vald (by omega) hbu (mem_drop_lt hd.wf (n-(n/2)));rw [List.length_drop,hd.len] at this;omega
 have hB3:(wd (base^(n/2))).length≤n/2+1:=len_pow36 hbu
 refine sx_enter Tryz.func190 rfl (n:=81) rfl (bq rfl) (args:= [.slice A n c,.int .i64 ((base:Nat):Int)]) (cw_keep [(0,.slice A n c),(1,.int .i64 ((base:Nat):Int))] ⟨rfl,rfl,trivial⟩ (sr (mv 1 rfl (ne_ (cw_seq (sr (mv 1 rfl (pu (v:= .int .i64 ((n:Nat):Int)) rfl (by kernel_rfl) (wl_cmp rfl rfl rfl true (cb_gt_t (a:=n) (b:=200) rfl rfl (by omega)) (by decide) (ne_ (cw_true rfl (sr (mv 1 rfl ?_)))))))))))))
 refine pu (v:= .int .i64 ((n:Nat):Int)) rfl (by kernel_rfl) (wl_ar rfl rfl rfl ((n/2:Nat):Int) (ai_quo (a:=n) (b:=2) rfl rfl (by omega) (by omega)) (by decide) (mv 1 rfl (ne_ (sr (mv 1 rfl (pu (v:= .int .i64 ((n:Nat):Int)) rfl (by kernel_rfl) (mv 1 rfl (wl_ar rfl rfl rfl ((n-(n/2):Nat):Int) (ai_sub (a:=n) (b:=n/2) rfl rfl (by omega) (by omega)) (by decide) (mv 1 rfl (ne_ (cw_seq ?_)))))))))))
 refine cw_draw mix 14 [] [Is (.slice A n c),Is (.int .i64 ((n-(n/2):Nat):Int)),Is (.slice A (n-(n/2)) c),Is (.int .i64 ((base:Nat):Int)),WR w.heap.size (vald base (ds.take (n-(n/2)))),Is (.int .i64 ((base:Nat):Int)),Is (.int .i64 ((n/2:Nat):Int)),WR w.heap.size (base^(n/2)),Is (.slice A n c),Is (.int .i64 ((n-(n/2):Nat):Int)),Is (.slice (if c=n-(n/2) then A else A.map (·.add ((n-(n/2))*1))) (n-(n-(n/2))) (c-(n-(n/2)))),Is (.int .i64 ((base:Nat):Int)),WR w.heap.size (vald base (ds.drop (n-(n/2)))),WR w.heap.size ((vald base (ds.take (n-(n/2))))*(base^(n/2))+(vald base (ds.drop (n-(n/2)))))] [[],[],[0,1],[],[2,3],[],[],[5,6],[],[],[8,9],[],[10,11],[4,7,12]] [[],[],[0,1],[],[0,1,2,3],[],[],[0,1,2,3,4,5,6],[],[],[8,9],[],[0,1,2,3,4,5,6,7,8,9,10,11],[0,1,2,3,4,5,6,7,8,9,10,11,12],[0,1,2,3,4,5,6,7,8,9,10,11,12,13]] rfl
  (obs_cons rfl rfl (hob rfl rfl ?_) (obs_cons rfl rfl (hob rfl rfl ?_) (obs_cons rfl rfl (hob rfl rfl ?_) (obs_cons rfl rfl (hob rfl rfl ?_) (obs_cons rfl rfl (hob rfl rfl ?_) (obs_cons rfl rfl (hob rfl rfl ?_) (obs_cons rfl rfl (hob rfl rfl ?_) (obs_cons rfl rfl (hob rfl rfl ?_) (obs_cons rfl rfl (hob rfl rfl ?_) (obs_cons rfl rfl (hob rfl rfl ?_) (obs_cons rfl rfl (hob rfl rfl ?_) (obs_cons rfl rfl (hob rfl rfl ?_) (obs_cons rfl rfl (hob rfl rfl ?_) (obs_cons rfl rfl (hob rfl rfl ?_) obs_nil)))))))))))))) ?_
 · 
  exact fun _ _=>deps_nil (mv 1 rfl (pi_done rfl (Ext.refl _) rfl))
 · 
  exact fun _ _=>deps_nil (mv 1 rfl (pi_done rfl (Ext.refl _) rfl))
 · 
  exact fun _ e10=>dk rfl rfl (dk rfl rfl (deps_nil (wl_slice rfl rfl un_u8 sz_u8 (lo:=0) (hi:=n-(n/2)) rfl rfl (by omega) (by have:=(hd.ext e10).rv.le;omega) (v:= .slice A (n-(n/2)) c) (slice_to8 _ _ _) (by decide) (pi_done rfl (Ext.refl _) rfl))))
 · 
  exact fun _ _=>deps_nil (mv 1 rfl (pi_done rfl (Ext.refl _) rfl))
 · 
  intro v23 e24
  have hw1:=(Ext.refl w).trans e24
  refine dk rfl rfl (dk rfl rfl (deps_nil (cl (vs:= [.slice A (n-(n/2)) c,.int .i64 ((base:Nat):Int)]) hw1 ((ih (by omega) hbl hbu ((hd.take (k:=n-(n/2)) (by omega)).ext e24) (by omega)).mono (Gv.imp (WR.imp hw1.size))) rfl (by kernel_rfl) fun xr37 v35 r37 e36 hw2=>?_)))
  obtain⟨A38,n38,c38,rfl,j38,o38⟩:=r37
  exact pi_done rfl e36 ⟨_,_,_,rfl,j38,o38⟩
 · 
  exact fun _ _=>deps_nil (mv 1 rfl (pi_done rfl (Ext.refl _) rfl))
 · 
  exact fun _ _=>deps_nil (mv 1 rfl (pi_done rfl (Ext.refl _) rfl))
 · 
  intro v43 e44
  have hw1:=(Ext.refl w).trans e44
  refine dk rfl rfl (dk rfl rfl (deps_nil (cl (vs:= [.int .i64 ((base:Nat):Int),.int .i64 ((n/2:Nat):Int)]) hw1 ((rx_powerI (n:=n/2) hbl hbu (by omega)).mono (Gv.imp (WR.imp hw1.size))) rfl (by kernel_rfl) fun xr57 v55 r57 e56 hw2=>?_)))
  obtain⟨A58,n58,c58,rfl,j58,o58⟩:=r57
  exact pi_done rfl e56 ⟨_,_,_,rfl,j58,o58⟩
 · 
  exact fun _ _=>deps_nil (mv 1 rfl (pi_done rfl (Ext.refl _) rfl))
 · 
  exact fun _ _=>deps_nil (mv 1 rfl (pi_done rfl (Ext.refl _) rfl))
 · 
  exact fun _ e64=>dk rfl rfl (dk rfl rfl (deps_nil (wl_slice rfl rfl un_u8 sz_u8 (lo:=n-(n/2)) (hi:=n) rfl rfl (by omega) (by have:=(hd.ext e64).rv.le;omega) (v:= .slice (if c=n-(n/2) then A else A.map (·.add ((n-(n/2))*1))) (n-(n-(n/2))) (c-(n-(n/2)))) (slice_from _ _ _ _) (by decide) (pi_done rfl (Ext.refl _) rfl))))
 · 
  exact fun _ _=>deps_nil (mv 1 rfl (pi_done rfl (Ext.refl _) rfl))
 · 
  intro v77 e78
  have hw1:=(Ext.refl w).trans e78
  refine dk rfl rfl (dk rfl rfl (deps_nil (cl (vs:= [.slice (if c=n-(n/2) then A else A.map (·.add ((n-(n/2))*1))) (n-(n-(n/2))) (c-(n-(n/2))),.int .i64 ((base:Nat):Int)]) hw1 ((ih (by omega) hbl hbu ((hd.drop (k:=n-(n/2)) (by omega)).ext e78) (by omega)).mono (Gv.imp (WR.imp hw1.size))) rfl (by kernel_rfl) fun xr91 v89 r91 e90 hw2=>?_)))
  obtain⟨A92,n92,c92,rfl,j92,o92⟩:=r91
  exact pi_done rfl e90 ⟨_,_,_,rfl,j92,o92⟩
 · 
  intro v93 e94
  have hw1:=(Ext.refl w).trans e94
  refine deps_cons rfl rfl fun x95 y96 h97 e98 f99=>?_
  obtain⟨A100,n100,c100,rfl,j100,o100⟩:=h97
  have o100:=o100.ext f99
  refine deps_cons rfl rfl fun x101 y102 h103 e104 f105=>?_
  obtain⟨A106,n106,c106,rfl,j106,o106⟩:=h103
  have o106:=o106.ext f105
  refine deps_cons rfl rfl fun x107 y108 h109 e110 f111=>?_
  obtain⟨A112,n112,c112,rfl,j112,o112⟩:=h109
  have o112:=o112.ext f111
  refine deps_nil (cl (vs:= [.slice A100 n100 c100,.slice A106 n106 c106,.slice A112 n112 c112]) hw1 (rx_MulAdd hw1.size o100.wi o106.wi o112.wi (by omega) (by omega)) rfl (by kernel_rfl) fun xr115 v113 r115 e114 hw2=>?_)
  obtain⟨A116,n116,c116,rfl,j116,o116⟩:=r115
  exact pi_done rfl e114 ⟨_,_,_,rfl,j116,o116⟩
 · 
  intro v117 e118
  have hw1:=(Ext.refl w).trans e118
  refine dk rfl rfl (dk rfl rfl (dk rfl rfl (dk rfl rfl (deps_cons rfl rfl fun x139 y140 h141 e142 f143=>?_))))
  obtain⟨A144,n144,c144,rfl,j144,o144⟩:=h141
  have o144:=o144.ext f143
  refine dk rfl rfl (dk rfl rfl (deps_cons rfl rfl fun x155 y156 h157 e158 f159=>?_))
  obtain⟨A160,n160,c160,rfl,j160,o160⟩:=h157
  have o160:=o160.ext f159
  refine dk rfl rfl (dk rfl rfl (dk rfl rfl (dk rfl rfl (deps_cons rfl rfl fun x181 y182 h183 e184 f185=>?_))))
  obtain⟨A186,n186,c186,rfl,j186,o186⟩:=h183
  have o186:=o186.ext f185
  refine deps_cons rfl rfl fun x187 y188 h189 e190 f191=>?_
  obtain⟨A192,n192,c192,rfl,j192,o192⟩:=h189
  have o192:=o192.ext f191
  refine deps_nil (mv 1 rfl (wl_nil (eo_np (eo_then (cw_ret (eo_thenR (eo_ret [.slice A192 n192 c192] rfl ⟨rfl,trivial⟩ ?_)))))))
  have hv:(vald base (ds.take (n-(n/2))))*(base^(n/2))+(vald base (ds.drop (n-(n/2))))=vald base ds:=vald_split hd.len (by omega)
  exact⟨_,rfl,⟨_,_,_,rfl,hv▸j192,hv▸o192⟩,hw1⟩
set_option maxHeartbeats 4000000 in
theorem rx_number_low {w:World}{A:Option Addr}{n c base:Nat}{ds:List Nat}(hbl:2≤base) (hbu:base≤36) (hd:Rb base w A n c ds) (hlow:n≤200):
    Calls Tryz.prog 190 #[.slice A n c,.int .i64 ((base:Nat):Int)] w (Gv w (WR w.heap.size (vald base ds))):=by
 refine sx_enter Tryz.func190 rfl (n:=81) rfl (bq rfl) (args:= [.slice A n c,.int .i64 ((base:Nat):Int)]) (cw_keep [(0,.slice A n c),(1,.int .i64 ((base:Nat):Int))] ⟨rfl,rfl,trivial⟩ (sr (mv 1 rfl (ne_ (cw_seq (sr (mv 1 rfl (pu (v:= .int .i64 ((n:Nat):Int)) rfl (by kernel_rfl) (wl_cmp rfl rfl rfl false (cb_gt_f (a:=n) (b:=200) rfl rfl (by omega)) (by decide) (ne_ (cw_false rfl (cw_skip (eo_then ?_)))))))))))))
 refine sr (mv 1 rfl (wl_call rfl rfl (vs:= [.int .i64 ((base:Nat):Int)]) (by kernel_rfl) (by decide) (rx_piece hbl hbu) ?_))
 rintro _ v1 ⟨k4,p5,xr3,rfl,r3,e2⟩
 have hk1:=p5.pos hbu
 have hk64:=p5.le64
 refine ret_intro ?_
 have hw1:=(Ext.refl w).trans e2
 obtain⟨_,_,rfl,rfl,rfl⟩:=r3
 refine mv 1 rfl (pu (v:= .int .i64 ((k4:Nat):Int)) rfl (by kernel_rfl) (pu (v:= .int .u64 ((base^k4:Nat):Int)) rfl (by kernel_rfl) (mv 2 rfl (ne_ (sr (mv 1 rfl (ne_ (cw_seq (cw_block ?_)))))))))
 refine cw_loop (T:=World×List Nat×List Nat×Option Addr×Nat×Nat×Option Addr×Nat×Nat)
  (fun⟨wr,pre,rest,DA,dn,dc,QA,qn,qc⟩=> [(0,.slice DA dn dc),(1,.int .i64 ((base:Nat):Int)),(7,.int .i64 ((k4:Nat):Int)),(9,.slice QA qn qc)])
  (fun⟨wr,pre,rest,DA,dn,dc,QA,qn,qc⟩=>wr)
  (fun⟨wr,pre,rest,DA,dn,dc,QA,qn,qc⟩=>(Ext w wr)∧(pre++rest=ds)∧(qn=(wd (vald base pre)).length)∧(Own wr w.heap.size 67 1 QA qn qc ((wd (vald base pre)).map W64))∧(Rb base wr DA dn dc rest))
  (fun⟨wr,pre,rest,DA,dn,dc,QA,qn,qc⟩=>dn)
  (⟨v1,[],ds,A,n,c,none,0,0⟩:World×List Nat×List Nat×Option Addr×Nat×Nat×Option Addr×Nat×Nat) ⟨hw1,rfl,rfl,(Own.nil _ _ _ _),(hd.ext e2)⟩ rfl ⟨rfl,rfl,rfl,rfl,trivial⟩ ?_
 rintro⟨wr,pre,rest,DA,dn,dc,QA,qn,qc⟩ ⟨hw1,hsp,han,hao,rl0⟩
 refine cw_re [(0,.slice DA dn dc),(1,.int .i64 ((base:Nat):Int)),(7,.int .i64 ((k4:Nat):Int)),(9,.slice QA qn qc)] wr rfl ⟨rfl,rfl,rfl,rfl,trivial⟩ (cw_seq (cw_seq ?_))
 by_cases hdn:dn>0
 · 
  refine cw_region (mv 1 rfl (pu (v:= .int .i64 ((dn:Nat):Int)) rfl (by kernel_rfl) (wl_cmp rfl rfl rfl true (cb_gt_t (a:=dn) (b:=0) rfl rfl (by omega)) (by decide) (ne_ (cw_true rfl (cw_skip (eo_then (cw_block (sr (mv 2 rfl (pu (v:= .int .i64 ((dn:Nat):Int)) rfl (by kernel_rfl) (wl_mi rfl rfl rfl (((min k4 dn:Nat):Int)) (by omega) (by decide) (mv 1 rfl ?_)))))))))))))
  refine ne_ (sr (mv 2 rfl (ne_ (cw_seq (sr (mv 2 rfl (wl_slice rfl rfl un_u8 sz_u8 (lo:=0) (hi:=min k4 dn) rfl rfl (by omega) (by have:=rl0.rv.le;omega) (v:= .slice DA (min k4 dn) dc) (slice_to8 _ _ _) (by decide) (pu (v:= .int .i64 (((min k4 dn):Nat):Int)) rfl (by kernel_rfl) (mv 1 rfl (ne_ (cw_block ?_)))))))))))
  refine cw_loop (T:=World×Nat×Nat×Nat)
   (fun⟨wq,i,v,p⟩=> [(0,.slice DA dn dc),(1,.int .i64 ((base:Nat):Int)),(7,.int .i64 ((k4:Nat):Int)),(10,.int .i64 ((min k4 dn:Nat):Int)),(9,.slice QA qn qc),(11,.int .u64 ((v:Nat):Int)),(12,.int .u64 ((p:Nat):Int)),(53,.slice DA (min k4 dn) dc),(54,.int .i64 (((min k4 dn):Nat):Int)),(55,.int .i64 ((i:Nat):Int))])
   (fun⟨wq,i,v,p⟩=>wq)
   (fun⟨wq,i,v,p⟩=>(Ext w wq)∧(i≤min k4 dn)∧(v=vald base (rest.take i))∧(p=base^i)∧(Own wq w.heap.size 67 1 QA qn qc ((wd (vald base pre)).map W64))∧(Rb base wq DA dn dc rest)∧(Rb base wq DA (min k4 dn) dc (rest.take (min k4 dn))))
   (fun⟨wq,i,v,p⟩=>min k4 dn-i)
   (⟨wr,0,0,1⟩:World×Nat×Nat×Nat) ⟨hw1,(Nat.zero_le _),rfl,rfl,hao,rl0,(rl0.take (k:=min k4 dn) (by omega))⟩ rfl ⟨rfl,rfl,rfl,rfl,rfl,rfl,rfl,rfl,rfl,rfl,trivial⟩ ?_
  rintro⟨wq,i,v,p⟩ ⟨hw1,hi,hv,hpp,hao,rl0,rl53⟩
  refine cw_re [(0,.slice DA dn dc),(1,.int .i64 ((base:Nat):Int)),(7,.int .i64 ((k4:Nat):Int)),(10,.int .i64 ((min k4 dn:Nat):Int)),(9,.slice QA qn qc),(11,.int .u64 ((v:Nat):Int)),(12,.int .u64 ((p:Nat):Int)),(53,.slice DA (min k4 dn) dc),(54,.int .i64 (((min k4 dn):Nat):Int)),(55,.int .i64 ((i:Nat):Int))] wq rfl ⟨rfl,rfl,rfl,rfl,rfl,rfl,rfl,rfl,rfl,rfl,trivial⟩ (cw_seq ?_)
  by_cases htst:i<min k4 dn
  · 
   have hx:=rl53.dig (i:=i) htst
   have hvl:v<base^i:=by rw [hv];have:=vald_lt (b:=base) (by omega) (rest.take i) (mem_take_lt rl0.wf i);rwa [List.length_take,Nat.min_eq_left (by rw [rl0.len];omega)] at this
   have hso:=step_ok p5 (by omega) (show i+1≤k4 by omega) hvl hx
   rw [←hpp] at hso
   obtain⟨hso1,hso2⟩:=hso
   refine cw_region (wl_cmp rfl rfl rfl true (cb_lt_t (a:=i) (b:=min k4 dn) rfl rfl (by omega)) (by decide) (ne_ (cw_seq (cw_true rfl (cw_skip (eo_then (cw_seq (cw_block (sr ?_)))))))))
   obtain⟨p7,hp7,hc7,hv7⟩:=(rl53).at (by decide) (i:=i) (by omega)
   refine wl_idx rfl rfl rfl un_u8 sz_u8 i rfl (by omega) p7 hp7 (by decide) (wl_load rfl rfl (load_cell1 ag_u8 hc7) (by decide) (mv 1 rfl (ne_ (sr (mv 2 rfl (wl_pureE rfl rfl (v:= .int .u64 (IntKind.u64.wrap ((base:Nat):Int))) (v':= .int .u64 ((base:Nat):Int)) (by decide) (by kernel_rfl) (cv_u64 (by first | omega | exact hle64)) (wl_ar rfl rfl rfl ((v*base:Nat):Int) (au_mul (a:=v) (b:=base) rfl rfl (by omega)) (by decide) (mv 1 rfl (wl_pureE rfl rfl (v:= .int .u64 (IntKind.u64.wrap (((rest.take (min k4 dn)).getD i 0:Nat):Int))) (v':= .int .u64 (((rest.take (min k4 dn)).getD i 0:Nat):Int)) (by decide) (by kernel_rfl) (cv_u64 (by first | omega | exact hle64)) (wl_ar rfl rfl rfl (((v*base)+((rest.take (min k4 dn)).getD i 0):Nat):Int) (au_add (a:=v*base) (b:=(rest.take (min k4 dn)).getD i 0) rfl rfl (by omega)) (by decide) (mv 1 rfl (ne_ (cw_region ?_)))))))))))))
   refine mv 2 rfl (wl_pureE rfl rfl (v:= .int .u64 (IntKind.u64.wrap ((base:Nat):Int))) (v':= .int .u64 ((base:Nat):Int)) (by decide) (by kernel_rfl) (cv_u64 (by first | omega | exact hle64)) (wl_ar rfl rfl rfl ((p*base:Nat):Int) (au_mul (a:=p) (b:=base) rfl rfl (by omega)) (by decide) (mv 1 rfl (wl_nil (eo_block_normal (eo_then (cw_region (wl_ar rfl rfl rfl ((i+1:Nat):Int) (ai_add (a:=i) (b:=1) rfl rfl (by omega)) (by decide) (mv 1 rfl (wl_nil (eo_round (⟨wq,i+1,v*base+(rest.take (min k4 dn)).getD i 0,p*base⟩:World×Nat×Nat×Nat) ⟨hw1,(by omega),(by rw [take_get htst (by rw [rl0.len];omega),vald_snoc,←hv]),(by rw [hpp,Nat.pow_succ]),hao,rl0,rl53⟩ (show min k4 dn-(i+1)<min k4 dn-i by omega) rfl ⟨rfl,rfl,rfl,rfl,rfl,rfl,rfl,rfl,rfl,rfl,trivial⟩)))))))))))
  · 
   have him:i=min k4 dn:=by omega
   have hpb:p≤18446744073709551615:=by rw [hpp];exact Nat.le_trans (Nat.pow_le_pow_right (by omega) (by omega)) p5.le
   have hvb:v≤18446744073709551615:=by have:=vald_lt (b:=base) (by omega) (rest.take i) (mem_take_lt rl0.wf i);rw [List.length_take,Nat.min_eq_left (by rw [rl0.len];omega),←hpp,←hv] at this;omega
   have hlen:(wd (vald base pre)).length≤200:=by have h1:=len_vald (by omega) hbu (ds:=pre) (fun x hx=>hd.wf x (by rw [←hsp];exact List.mem_append_left _ hx));have h2:=hd.len;rw [←hsp,List.length_append] at h2;omega
   have hL1:(wd (vald base pre*p)).length≤201:=by have:=len_wd_mul (vald base pre) p;have:=len_one hpb;omega
   have hm:vald base (pre++rest.take (min k4 dn))=vald base pre*p+v:=by rw [←him,vald_piece (by rw [rl0.len];omega),hpp,hv]
   refine cw_region (wl_cmp rfl rfl rfl false (cb_lt_f (a:=i) (b:=min k4 dn) rfl rfl (by omega)) (by decide) (ne_ (cw_seq (cw_false rfl (cw_exit (eo_thenX (eo_loopX (eo_block_here (eo_then (sr (mv 2 rfl (cl (vs:= [.slice QA qn qc,.int .u64 ((p:Nat):Int)]) hw1 (rx_MulWord hw1.size hao.wi (by omega) hpb) rfl (by kernel_rfl) fun xr10 v8 r10 e9 hw2=>?_))))))))))))
   obtain⟨A11,n11,c11,rfl,j11,o11⟩:=r10
   refine mv 1 rfl (wl_bslice rfl rfl (by decide) (k:=1) (e:=67) [.int .u64 ((v:Nat):Int)] (fun _=>by kernel_rfl) fun g12 v13 nb14=>?_)
   have o15:=O1.mk_ (x:=v) (b:=w.heap.size) nb14 hw2.size
   have e16:=nb14.ext
   have hw3:=hw2.trans e16
   refine cl (vs:= [.slice A11 n11 c11,.slice (some ⟨g12,0,none⟩) 1 1]) hw3 (rx_AddW hw3.size (o11.ext e16).wi (by omega) (own1_wi o15 hvb) (by decide)) rfl (by kernel_rfl) fun xr21 v19 r21 e20 hw4=>?_
   obtain⟨A22,n22,c22,rfl,j22,o22⟩:=r21
   refine mv 1 rfl (ne_ (cw_region (mv 2 rfl (wl_slice rfl rfl un_u8 sz_u8 (lo:=min k4 dn) (hi:=dn) rfl rfl (by omega) (by have:=(rl0.ext (e9.trans (e16.trans e20))).rv.le;omega) (v:= .slice (if dc=min k4 dn then DA else DA.map (·.add ((min k4 dn)*1))) (dn-(min k4 dn)) (dc-(min k4 dn))) (slice_from _ _ _ _) (by decide) (mv 1 rfl (wl_nil (eo_block_normal (eo_round (⟨v19,pre++rest.take (min k4 dn),rest.drop (min k4 dn),if dc=min k4 dn then DA else DA.map (·.add ((min k4 dn)*1)),dn-(min k4 dn),dc-(min k4 dn),A22,n22,c22⟩:World×List Nat×List Nat×Option Addr×Nat×Nat×Option Addr×Nat×Nat) ⟨hw4,(by rw [List.append_assoc,List.take_append_drop];exact hsp),(by rw [hm];exact j22),(by rw [hm];exact o22),((rl0.ext (e9.trans (e16.trans e20))).drop (k:=min k4 dn) (by omega))⟩ (show dn-min k4 dn<dn by omega) rfl ⟨rfl,rfl,rfl,rfl,trivial⟩))))))))
 · 
  refine cw_region (mv 1 rfl (pu (v:= .int .i64 ((dn:Nat):Int)) rfl (by kernel_rfl) (wl_cmp rfl rfl rfl false (cb_gt_f (a:=dn) (b:=0) rfl rfl (by omega)) (by decide) (ne_ (cw_false rfl (cw_exit (eo_thenX (eo_loopX (eo_block_here (eo_then (sr (mv 2 rfl (wl_nil ?_)))))))))))))
  refine eo_then (cw_ret (eo_ret [.slice QA qn qc] rfl ⟨rfl,trivial⟩ ?_))
  have hr0:rest= []:=List.length_eq_zero_iff.1 (by have:=rl0.len;omega)
  rw [hr0,List.append_nil] at hsp
  exact⟨_,rfl,⟨_,_,_,rfl,hsp▸han,hsp▸hao⟩,hw1⟩
theorem rx_numberN:∀N,NumOk N
 | 0=>fun hn hbl hbu hd _=>rx_number_low hbl hbu hd (by omega)
 | N+1=>by
  intro hn hbl hbu hd hm
  rename_i w A n c base ds
  by_cases h:200<n
  ·exact rx_number_big (rx_numberN N) hn hbl hbu hd hm h
  ·exact rx_number_low hbl hbu hd (by omega)
theorem rx_number {w:World}{b:Nat}(hb:b≤w.heap.size){A:Option Addr}{n c base:Nat}{ds:List Nat}(hbl:2≤base) (hbu:base≤36) (hd:Rb base w A n c ds) (hn:n≤17179869184):Calls Tryz.prog 190 #[.slice A n c,.int .i64 ((base:Nat):Int)] w (Gv w (WR b (vald base ds))):=
 (rx_numberN n (Nat.le_refl _) hbl hbu hd hn).mono (Gv.imp (WR.imp hb))
theorem getD_mem {l:List Nat}{i:Nat}(h:i<l.length):l.getD i 0∈l:=by
 rw [List.getD_eq_getElem?_getD,List.getElem?_eq_getElem h];exact List.getElem_mem h
theorem dig_map {b:Nat}{l:List Nat}(h:∀c,c∈l→dv c<b):∀x,x∈l.map dv→x<b:=by
 intro x hx
 obtain⟨c,hc,rfl⟩:=List.mem_map.1 hx
 exact h c hc
set_option maxHeartbeats 4000000 in
theorem rx_Read_all {w:World}{base:Nat}{bs:List Nat}(hbl:2≤base) (hbu:base≤36) (hbs:∀b,b∈bs→b<256) (hlen:bs.length≤17179869184):
    Calls Tryz.prog 165 #[.string (strB bs),.int .i64 ((base:Nat):Int)] w (fun e w'=>(Good base bs→Gv w (T2 (WR w.heap.size (vald base (bs.map dv))) (Is (.int .i64 0))) e w')∧(¬Good base bs→Gv w (T2 (Is (.slice none 0 0)) (Is (.int .i64 7))) e w')):=by
 refine sx_enter Tryz.func165 rfl (n:=41) rfl (bq rfl) (args:= [.string (strB bs),.int .i64 ((base:Nat):Int)]) (cw_keep [(0,.string (strB bs)),(1,.int .i64 ((base:Nat):Int))] ⟨rfl,rfl,trivial⟩ (sr (mv 2 rfl (ne_ (cw_seq (sr (mv 1 rfl (wl_cmp rfl rfl rfl false (cb_lt_f (a:=base) (b:=2) rfl rfl (by omega)) (by decide) (mv 2 rfl (wl_cmp rfl rfl rfl false (cb_gt_f (a:=base) (b:=36) rfl rfl (by omega)) (by decide) (pu (v:= .bool false) rfl (by kernel_rfl) (ne_ (cw_false rfl ?_)))))))))))))
 refine cw_skip (eo_then (sr (mv 1 rfl (wl_pureE rfl rfl (v:= .int .i64 (((strB bs).size:Nat):Int)) (v':= .int .i64 ((bs.length:Nat):Int)) (by decide) (by kernel_rfl) (by rw [strB_size]) (wl_make80 (k:=bs.length) rfl rfl rfl un_u8 info8 rfl (by omega) (by decide) fun g1 v2 ho3 e4=>?_)))))
 have ho3:=ho3.mono (Ext.refl w).size
 have hw1:=(Ext.refl w).trans e4
 refine mv 1 rfl (ne_ (cw_seq (sr (mv 1 rfl (wl_range (bs:=bs) rfl rfl Tryz.underlying9 (by decide) fun g5 v6 hg7 it8 e9=>?_)))))
 have ge10:w.heap.size≤g5:=by rw [←hg7];exact hw1.size
 clear hg7
 have hw2:=hw1.trans e9
 refine ne_ (cw_block ?_)
 refine cw_loop (T:=World×Nat×Option Addr×Nat)
  (fun⟨wr,p,OA,oc⟩=> [(0,.string (strB bs)),(1,.int .i64 ((base:Nat):Int)),(6,.slice OA p oc),(20,.pointer (some ⟨g5,0,none⟩))])
  (fun⟨wr,p,OA,oc⟩=>wr)
  (fun⟨wr,p,OA,oc⟩=>(Ext w wr)∧(It wr g5 bs p)∧(Own wr w.heap.size 5 1 OA p oc (((bs.take p).map dv).map B8))∧(p≤bs.length)∧(∀c,c∈bs.take p→dv c<base))
  (fun⟨wr,p,OA,oc⟩=>bs.length-p)
  (⟨v6,0,(some ⟨g1,0,none⟩),bs.length⟩:World×Nat×Option Addr×Nat) ⟨hw2,it8,(ho3.ext e9),(Nat.zero_le _),(fun c hc=>absurd hc (by simp))⟩ rfl ⟨rfl,rfl,rfl,rfl,trivial⟩ ?_
 rintro⟨wr,p,OA,oc⟩ ⟨hw1,hI,hO,hp,hg⟩
 refine cw_re [(0,.string (strB bs)),(1,.int .i64 ((base:Nat):Int)),(6,.slice OA p oc),(20,.pointer (some ⟨g5,0,none⟩))] wr rfl ⟨rfl,rfl,rfl,rfl,trivial⟩ (cw_seq ?_)
 by_cases hnx:p<bs.length
 · 
  refine cw_region ?_
  have it11:=hI
  refine wl_nextR rfl rfl hbs it11 (by omega) (by decide) fun v12 r13 z14 hr15 it16 u17=>?_
  have hw2:=u17.ext hw1 ge10
  refine pu (v:= .bool true) rfl (by kernel_rfl) (ne_ (cw_seq (cw_true rfl (cw_skip (eo_then (cw_block (sr (pu (v:= .int .i32 ((r13:Nat):Int)) rfl (by kernel_rfl) (mv 1 rfl (ne_ (sr (mv 1 rfl (cl (vs:= [.int .i32 ((r13:Nat):Int)]) hw2 (rx_value hr15.le) rfl (by kernel_rfl) fun xr20 v18 r20 e19 hw3=>?_)))))))))))))
  obtain rfl:=r20
  refine mv 1 rfl (ne_ (cw_seq (cw_seq ?_)))
  by_cases hge:dv r13≥base
  · 
   have hbad:¬Good base bs:=fun h=>by have:=h.2 (bs.getD p 0) (getD_mem hnx);rw [←hr15.dv] at this;omega
   refine cw_region (mv 2 rfl (wl_cmp rfl rfl rfl true (cb_ge_t (a:=dv r13) (b:=base) rfl rfl (by omega)) (by decide) (ne_ (cw_true rfl (sr (mv 2 rfl (ne_ (cw_ret (eo_thenR (eo_block_ret (eo_loopR (eo_block_ret (eo_thenR ?_)))))))))))))
   refine eo_ret [S0,.int .i64 7] rfl ⟨rfl,rfl,trivial⟩ ?_
   exact⟨fun h=>absurd h hbad,fun _=>⟨_,rfl,⟨_,_,rfl,rfl,rfl⟩,hw3⟩⟩
  · 
   have h1z:=hr15.one (by omega)
   have hdv36:=dv_le r13
   refine cw_region (mv 2 rfl (wl_cmp rfl rfl rfl false (cb_ge_f (a:=dv r13) (b:=base) rfl rfl (by omega)) (by decide) (ne_ (cw_false rfl (cw_skip (eo_then (cw_region (mv 2 rfl (wl_pureE rfl rfl (v:= .int .u8 (IntKind.u8.wrap ((dv r13:Nat):Int))) (v':= .int .u8 ((dv r13:Nat):Int)) (by decide) (by kernel_rfl) (cv_u8 (by omega)) (wl_bslice rfl rfl (by decide) (k:=1) (e:=5) [.int .u8 ((dv r13:Nat):Int)] (fun _=>by kernel_rfl) fun g21 v22 nb=>?_))))))))))
   have hb23:=nb.bk
   have e24:=nb.ext
   clear nb
   have hw4:=hw3.trans e24
   have ow25:=((hO.updI it11 u17).ext (e19.trans e24))
   refine wl_app rfl rfl rfl un_u8 info8 rfl (by decide) (by decide) ow25 hw4.size [.int .u8 ((dv r13:Nat):Int)] rfl (one_news _ hb23) rfl (by omega) (by decide) fun A26 c27 v28 ho29 uo30 kp31=>?_
   have hw5:=uo30.ext hw4 (fun p hp=>(ow25.block p hp).1)
   have ho32:Own v28 w.heap.size 5 1 A26 (p+1) c27 ((((bs.take p).map dv)++ [dv r13]).map B8):=by have h:=ho29;simp only [List.map_append,List.map_cons,List.map_nil] at h⊢;exact h
   refine mv 1 rfl (wl_nil (eo_block_normal ?_))
   have htk:bs.take (p+1)=bs.take p++ [bs.getD p 0]:=by have:=take_get (n:=bs.length) hnx (Nat.le_refl _);rwa [List.take_length] at this
   have hdr:=hr15.dv
   refine eo_round (⟨v28,p+1,A26,c27⟩:World×Nat×Option Addr×Nat) ⟨hw5,(by have h:=((it16.ext (e19.trans e24)).updO uo30 (it_own_ne ow25 (it16.ext (e19.trans e24))));rwa [h1z.1] at h),(by rw [htk,List.map_append];rw [hdr] at ho32;exact ho32),(by omega),(by rw [htk];intro c hc;rcases List.mem_append.1 hc with h | h;(· exact hg c h);(· rw [List.mem_singleton.1 h,←hdr];omega))⟩ (show bs.length-(p+1)<bs.length-p by omega) rfl ⟨rfl,rfl,rfl,rfl,trivial⟩
 · 
  have hpl:p=bs.length:=by omega
  refine cw_region ?_
  have it33:=hI
  refine wl_next_end rfl rfl it33 (by omega) (by decide) (pu (v:= .bool false) rfl (by kernel_rfl) (ne_ (cw_seq (cw_false rfl (cw_exit (eo_thenX (eo_loopX (eo_block_here (eo_then (cw_seq (cw_seq ?_)))))))))))
  by_cases hz:p=0
  · 
   have hbad:¬Good base bs:=fun h=>h.1 (List.length_eq_zero_iff.1 (by omega))
   refine cw_region (mv 1 rfl (pu (v:= .int .i64 ((p:Nat):Int)) rfl (by kernel_rfl) (wl_cmp rfl rfl rfl true (cb_eq_t (a:=p) (b:=0) rfl rfl (by omega)) (by decide) (ne_ (cw_true rfl (sr (mv 2 rfl (ne_ (cw_ret (eo_thenR (eo_ret [S0,.int .i64 7] rfl ⟨rfl,rfl,trivial⟩ ?_)))))))))))
   exact⟨fun h=>absurd h hbad,fun _=>⟨_,rfl,⟨_,_,rfl,rfl,rfl⟩,hw1⟩⟩
  · 
   have hgood:Good base bs:=⟨fun e=>by rw [e] at hpl;simp at hpl;omega,by have:=hg;rwa [hpl,List.take_length] at this⟩
   have hLn:(wd (vald base ((bs.take p).map dv))).length≤p:=by have:=len_vald (b:=base) (by omega) hbu (ds:=(bs.take p).map dv) (dig_map hg);rw [List.length_map,List.length_take] at this;omega
   refine cw_region (mv 1 rfl (pu (v:= .int .i64 ((p:Nat):Int)) rfl (by kernel_rfl) (wl_cmp rfl rfl rfl false (cb_eq_f (a:=p) (b:=0) rfl rfl (by omega)) (by decide) (ne_ (cw_false rfl (cw_skip (eo_then (sr (mv 2 rfl (cl (vs:= [.slice OA p oc,.int .i64 ((base:Nat):Int)]) hw1 (rx_number hw1.size hbl hbu (hO.rb (dig_map hg)) (by omega)) rfl (by kernel_rfl) fun xr36 v34 r36 e35 hw2=>?_))))))))))
   obtain⟨A37,n37,c37,rfl,j37,o37⟩:=r36
   refine cl (vs:= [.slice A37 n37 c37]) hw2 (rx_LeastW hw2.size o37.wi (by omega)) rfl (by kernel_rfl) fun xr40 v38 r40 e39 hw3=>?_
   obtain⟨A41,n41,c41,rfl,j41,o41⟩:=r40
   refine mv 2 rfl (ne_ (cw_ret (eo_ret [.slice A41 n41 c41,I0] rfl ⟨rfl,rfl,trivial⟩ ?_)))
   have hfin:vald base ((bs.take p).map dv)=vald base (bs.map dv):=by rw [hpl,List.take_length]
   exact⟨fun _=>⟨_,rfl,⟨_,_,rfl,⟨_,_,_,rfl,hfin▸j41,hfin▸o41⟩,rfl⟩,hw3⟩,fun h=>absurd hgood h⟩
theorem rx_Read_good {w:World}{b:Nat}(hb:b≤w.heap.size){base:Nat}{bs:List Nat}(hbl:2≤base) (hbu:base≤36) (hbs:∀b,b∈bs→b<256) (hlen:bs.length≤17179869184) (hg:Good base bs):
  Calls Tryz.prog 165 #[.string (strB bs),.int .i64 ((base:Nat):Int)] w (Gv w (T2 (WR b (vald base (bs.map dv))) (Is (.int .i64 0)))):=(rx_Read_all hbl hbu hbs hlen).mono fun _e _w' h=>Gv.imp (T2.imp (WR.imp hb) Is.imp) _ _ (h.1 hg)
theorem rx_Read_bad {w:World}{base:Nat}{bs:List Nat}(hbl:2≤base) (hbu:base≤36) (hbs:∀b,b∈bs→b<256) (hlen:bs.length≤17179869184) (hg:¬Good base bs):
  Calls Tryz.prog 165 #[.string (strB bs),.int .i64 ((base:Nat):Int)] w (Gv w (T2 (Is (.slice none 0 0)) (Is (.int .i64 7)))):=(rx_Read_all hbl hbu hbs hlen).mono fun _e _w' h=>h.2 hg
set_option maxHeartbeats 4000000 in
theorem rx_Text {w:World}{A:Option Addr}{an ac m base:Nat}(hS:Signs w) (hx:Wi w A an ac m) (hal:an≤4194304) (hbl:2≤base) (hbu:base≤36):
    Calls Tryz.prog 140 #[.slice A an ac,.int .i64 ((base:Nat):Int)] w (Gv w (T2 (Is (.string (strB (txtN base m)))) (Is (.int .i64 0)))):=by
 have hml:(wd m).length≤4194304:=Nat.le_trans hx.len hal
 have hlen0:0+max 0 (db base m).length≤137438953472:=by have:=len_db_small hbl hml;omega
 refine sx_enter Tryz.func140 rfl (n:=73) rfl (bq rfl) (args:= [.slice A an ac,.int .i64 ((base:Nat):Int)]) (cw_keep [(0,.slice A an ac),(1,.int .i64 ((base:Nat):Int))] ⟨rfl,rfl,trivial⟩ (sr (mv 2 rfl (ne_ (cw_seq (sr (mv 1 rfl (wl_cmp rfl rfl rfl false (cb_lt_f (a:=base) (b:=2) rfl rfl (by omega)) (by decide) (mv 2 rfl (wl_cmp rfl rfl rfl false (cb_gt_f (a:=base) (b:=36) rfl rfl (by omega)) (by decide) (pu (v:= .bool false) rfl (by kernel_rfl) (ne_ (cw_false rfl ?_)))))))))))))
 refine cw_skip (eo_then (sr (mv 1 rfl (cl (vs:= [.slice A an ac]) (Ext.refl w) (g_nat_LeastW (hx.ext (Ext.refl w)) (by omega)) rfl (by kernel_rfl) fun xr3 v1 r3 e2 hw1=>?_))))
 obtain⟨A4,n4,c4,rfl,j4,o4⟩:=r3
 refine mv 1 rfl (ne_ (cw_seq (cw_seq ?_)))
 by_cases hz0:n4=0
 · 
  have hm0:m=0:=len_wd_zero.1 (by omega)
  refine cw_region (mv 1 rfl (pu (v:= .int .i64 ((n4:Nat):Int)) rfl (by kernel_rfl) (wl_cmp rfl rfl rfl true (cb_eq_t (a:=n4) (b:=0) rfl rfl (by omega)) (by decide) (ne_ (cw_true rfl (sr (mv 2 rfl (ne_ (cw_ret (eo_thenR (eo_ret [.string (strB ([48])),I0] rfl ⟨rfl,rfl,trivial⟩ ?_)))))))))))
  have hstr:([48]:List Nat)=txtN base m:=by subst hm0;rfl
  exact⟨_,rfl,⟨_,_,rfl,(show Value.string _=Value.string _ from congrArg (fun l=>Value.string (strB l)) hstr),rfl⟩,hw1⟩
 · 
  have hm0:m≠0:=fun e=>hz0 (by rw [j4,e];rfl)
  refine cw_region (mv 1 rfl (pu (v:= .int .i64 ((n4:Nat):Int)) rfl (by kernel_rfl) (wl_cmp rfl rfl rfl false (cb_eq_f (a:=n4) (b:=0) rfl rfl (by omega)) (by decide) (ne_ (cw_false rfl (cw_skip (eo_then (sr (mv 1 rfl (wl_call rfl rfl (vs:= [.int .i64 ((base:Nat):Int)]) (by kernel_rfl) (by decide) (rx_piece hbl hbu) ?_))))))))))
  rintro _ v5 ⟨k8,p9,xr7,rfl,r7,e6⟩
  refine ret_intro ?_
  have hw2:=hw1.trans e6
  obtain⟨_,_,rfl,rfl,rfl⟩:=r7
  refine mv 1 rfl (pu (v:= .int .i64 ((k8:Nat):Int)) rfl (by kernel_rfl) (pu (v:= .int .u64 ((base^k8:Nat):Int)) rfl (by kernel_rfl) (mv 2 rfl (ne_ (sr (mv 3 rfl (pu (v:= .agg #[.int .i64 ((base:Nat):Int),.int .i64 ((k8:Nat):Int),.int .u64 ((base^k8:Nat):Int),S0,S0]) rfl (by kernel_rfl) (wl_box rfl rfl (vs:= [.int .i64 ((base:Nat):Int),.int .i64 ((k8:Nat):Int),.int .u64 ((base^k8:Nat):Int),S0,S0]) rfl (by decide) fun g11 v12 nb=>?_))))))))
  have hgl:=Nat.le_of_eq nb.at_
  have hle0:w.heap.size≤v5.heap.size:=hw2.size
  have hb14:=nb.bk
  have ge15:w.heap.size≤g11:=by rw [←nb.at_];exact hw2.size
  have e13:=nb.ext
  clear nb
  have hw3:=hw2.trans e13
  refine mv 1 rfl (ne_ (cw_seq (cw_seq ?_)))
  by_cases h12:n4>12
  · 
   refine cw_region (mv 1 rfl (pu (v:= .int .i64 ((n4:Nat):Int)) rfl (by kernel_rfl) (wl_cmp rfl rfl rfl true (cb_gt_t (a:=n4) (b:=12) rfl rfl (by omega)) (by decide) (ne_ (cw_true rfl (cw_seq ?_))))))
   have hk1:1≤k8:=by refine Nat.pos_of_ne_zero (fun e=>?_);have:=p9.gt;rw [e,Nat.zero_add,Nat.pow_one] at this;omega
   have hu2:2≤base^k8:=Nat.le_trans hbl (Nat.le_trans (Nat.le_of_eq (Nat.pow_one base).symm) (Nat.pow_le_pow_right (by omega) hk1))
   have hum:=p9.le
   refine cw_region (mv 1 rfl (wl_bslice rfl rfl (by decide) (k:=1) (e:=67) [.int .u64 ((base^k8:Nat):Int)] (fun _=>by kernel_rfl) fun g16 v17 nb=>?_))
   have hb18:=nb.bk
   have e19:=nb.ext
   clear nb
   have hw4:=hw3.trans e19
   refine mv 1 rfl (ne_ (cw_block ?_))
   refine cw_loop (T:=World×Nat×Option Addr×Nat×Nat×Option Addr×Nat)
    (fun⟨wr,j,QA,qn,qc,PA,pc⟩=> [(0,.slice A4 n4 c4),(1,.int .i64 ((base:Nat):Int)),(6,.int .i64 ((k8:Nat):Int)),(7,.int .u64 ((base^k8:Nat):Int)),(8,.pointer (some ⟨g11,0,none⟩)),(9,.slice QA qn qc)])
    (fun⟨wr,j,QA,qn,qc,PA,pc⟩=>wr)
    (fun⟨wr,j,QA,qn,qc,PA,pc⟩=>(Ext w wr)∧(j=0∨(base^k8)^2^(j-1)≤m)∧(qn=(wd ((base^k8)^2^j)).length)∧(qn≤8388608)∧(Own wr 0 67 1 QA qn qc ((wd ((base^k8)^2^j)).map W64))∧(Bk wr g11 141 [.int .i64 ((base:Nat):Int),.int .i64 ((k8:Nat):Int),.int .u64 ((base^k8:Nat):Int),.slice PA j pc,S0])∧(Pw wr v5.heap.size PA j pc (base^k8))∧(v5.heap.size≤wr.heap.size)∧(Own wr 0 67 1 A4 n4 c4 ((wd m).map W64)))
    (fun⟨wr,j,QA,qn,qc,PA,pc⟩=>64-j)
    (⟨v17,0,(some ⟨g16,0,none⟩),1,1,none,0⟩:World×Nat×Option Addr×Nat×Nat×Option Addr×Nat) ⟨hw4,(Or.inl rfl),(by rw [Nat.pow_zero,Nat.pow_one];exact len1 hum (by omega)),(by decide),(by rw [Nat.pow_zero,Nat.pow_one];exact (bw_own hb18 hum (by omega))),(hb14.ext e19),(Pw.nil _ _ _),((Nat.le_trans e13.size e19.size)),((o4.ext (e6.trans (e13.trans e19)))).mono (Nat.zero_le _)⟩ rfl ⟨rfl,rfl,rfl,rfl,rfl,rfl,trivial⟩ ?_
   rintro⟨wr,j,QA,qn,qc,PA,pc⟩ ⟨hw1,hjm,hqn,hq8,hq,b_g,hPw,hpb0,hoa⟩
   refine cw_re [(0,.slice A4 n4 c4),(1,.int .i64 ((base:Nat):Int)),(6,.int .i64 ((k8:Nat):Int)),(7,.int .u64 ((base^k8:Nat):Int)),(8,.pointer (some ⟨g11,0,none⟩)),(9,.slice QA qn qc)] wr rfl ⟨rfl,rfl,rfl,rfl,rfl,rfl,trivial⟩ (cw_seq (cw_seq ?_))
   have hj30:j≤29:=by rcases hjm with h | h;(· omega);(· have:=ip_small (pow_le_bits hu2 h hml) (by omega);omega)
   by_cases hle:(base^k8)^2^j≤m
   · 
    have hsq:(wd ((base^k8)^2^j*(base^k8)^2^j)).length≤8388608:=len_sq (Nat.le_trans (len_wd_mono hle) hml)
    refine cw_region (mv 2 rfl (cl (vs:= [.slice QA qn qc,.slice A4 n4 c4]) hw1 (rx_Cmp hq.wi (by omega) hoa.wi (by omega)) rfl (by kernel_rfl) fun xr22 v20 r22 e21 hw2=>?_))
    obtain rfl:=r22
    refine wl_cmp rfl rfl rfl true (cmp3_leT hle) (by decide) (ne_ (cw_true rfl (cw_skip (eo_then (cw_block (sr (mv 2 rfl (pf g11 0 rfl (by kernel_rfl) (pf g11 3 rfl (by kernel_rfl) (wl_load rfl rfl (load_cell (fun _=>by kernel_rfl) (b_g.ext e21) rfl) (by decide) (mv 1 rfl (wl_bslice rfl rfl (by decide) (k:=1) (e:=24) [.slice QA qn qc] (fun _=>by kernel_rfl) fun g23 v24 nb=>?_))))))))))))
    have hb25:=nb.bk
    have e26:=nb.ext
    clear nb
    have hw3:=hw2.trans e26
    refine wl_appP rfl rfl rfl (hPw.ext (e21.trans e26)) (Nat.le_trans hpb0 ((Nat.le_trans e21.size e26.size))) hb25 hqn hq8 (hq.ext (e21.trans e26)) (by omega) (by decide) fun A27 c28 v29 pw30 uo31 ⟨us32,ow33⟩=>?_
    have hw4:=uo31.ext hw3 (fun p hp=>Nat.le_trans hle0 (ow33.block p hp).1)
    refine pf g11 0 rfl (by kernel_rfl) (pf g11 3 rfl (by kernel_rfl) ?_)
    have hb35:=((b_g.ext (e21.trans e26)).updO uo31 (own_ne ow33 (b_g.ext (e21.trans e26)) (by decide)))
    refine wl_stored1 rfl rfl rfl (fun _=>by kernel_rfl) rfl hb35 (bq rfl) rfl [.int .i64 ((base:Nat):Int),.int .i64 ((k8:Nat):Int),.int .u64 ((base^k8:Nat):Int),.slice A27 (j+1) c28,S0] rfl fun v34 hb36 u37 hs38=>?_
    have hw5:=u37.ext hw4 ge15
    refine ne_ (cw_seq (cw_seq ?_))
    by_cases hbig:2*qn>n4+2
    · 
     refine cw_region (mv 1 rfl (pu (v:= .int .i64 ((qn:Nat):Int)) rfl (by kernel_rfl) (wl_ar rfl rfl rfl ((2*qn:Nat):Int) (ai_mul (a:=2) (b:=qn) rfl rfl (by omega)) (by decide) (mv 1 rfl (pu (v:= .int .i64 ((n4:Nat):Int)) rfl (by kernel_rfl) (wl_ar rfl rfl rfl ((n4+2:Nat):Int) (ai_add (a:=n4) (b:=2) rfl rfl (by omega)) (by decide) (wl_cmp rfl rfl rfl true (cb_gt_t (a:=2*qn) (b:=n4+2) rfl rfl (by omega)) (by decide) (ne_ (cw_true rfl (cw_exit (eo_thenX (eo_block_far (by decide) (eo_loopX ?_)))))))))))))
     refine eo_block_here (eo_then (sr (mv 3 rfl (pf g11 0 rfl (by kernel_rfl) (pf g11 3 rfl (by kernel_rfl) (wl_load rfl rfl (load_cell (fun _=>by kernel_rfl) hb36 rfl) (by decide) (pu (v:= .int .i64 (((j+1):Nat):Int)) rfl (by kernel_rfl) (wl_ar rfl rfl rfl (((j+1:Nat):Int)-1) (ar_i64s rfl (by omega) (by omega)) (by decide) (wl_call rfl rfl (vs:= [.pointer (some ⟨g11,0,none⟩),.slice A4 n4 c4,.int .i64 (((j+1:Nat):Int)-1),I0]) (by kernel_rfl) (by decide) (rx_halves (j+1) (lb:=v5.heap.size) (bs:= []) rfl (hS.ext hw5) (Nat.lt_of_lt_of_le (World.block_lt_of_cell? w _ (hS 0 (by decide))) hle0) hbl hbu hb36 (Own.nil _ _ _ _) hgl (Nat.le_trans hpb0 ((Nat.le_trans (Nat.le_trans (Nat.le_trans e21.size e26.size) uo31.size) u37.by_.size))) (((hoa.ext (e21.trans e26)).updOT ow33 (by decide) uo31).updT hb35 (by decide) u37).wi (by omega) rfl p9 (by decide) hlen0 ((pw30.updT hb35 u37 (by decide) (by decide)).mono (Nat.zero_le _)) (Nat.le_refl _) (by omega)) ?_)))))))))
     rintro _ v39 ⟨rfl,A40,n41,c42,hb43,ho44,uw45,kp46⟩
     refine ret_intro ?_
     have hw6:=uw45.ext hw5 hle0
     refine ne_ (sr (mv 1 rfl (pf g11 0 rfl (by kernel_rfl) (pf g11 4 rfl (by kernel_rfl) (wl_load rfl rfl (load_cell (fun _=>by kernel_rfl) hb43 rfl) (by decide) (wl_toStr rfl rfl ho44 (by decide) (mv 2 rfl (ne_ (cw_ret (eo_ret [.string (strB ([]++txt (padTo (db base m) 0))),I0] rfl ⟨rfl,rfl,trivial⟩ ?_))))))))))
     have hstr:([]++txt (padTo (db base m) 0):List Nat)=txtN base m:=by rw [List.nil_append,padTo_of (Nat.zero_le _),txtN,if_neg hm0]
     exact⟨_,rfl,⟨_,_,rfl,(show Value.string _=Value.string _ from congrArg (fun l=>Value.string (strB l)) hstr),rfl⟩,hw6⟩
    · 
     refine cw_region (mv 1 rfl (pu (v:= .int .i64 ((qn:Nat):Int)) rfl (by kernel_rfl) (wl_ar rfl rfl rfl ((2*qn:Nat):Int) (ai_mul (a:=2) (b:=qn) rfl rfl (by omega)) (by decide) (mv 1 rfl (pu (v:= .int .i64 ((n4:Nat):Int)) rfl (by kernel_rfl) (wl_ar rfl rfl rfl ((n4+2:Nat):Int) (ai_add (a:=n4) (b:=2) rfl rfl (by omega)) (by decide) (wl_cmp rfl rfl rfl false (cb_gt_f (a:=2*qn) (b:=n4+2) rfl rfl (by omega)) (by decide) (ne_ (cw_false rfl (cw_skip (eo_then (cw_region (mv 1 rfl ?_)))))))))))))
     refine cl (vs:= [.slice QA qn qc]) hw5 (rx_Square (Nat.zero_le _) (((hq.ext (e21.trans e26)).updOT ow33 (by decide) uo31).updT hb35 (by decide) u37).wi (by omega)) rfl (by kernel_rfl) fun xr49 v47 r49 e48 hw6=>?_
     obtain⟨A50,n50,c50,rfl,j50,o50⟩:=r49
     refine mv 1 rfl (wl_nil (eo_block_normal (eo_round (⟨v47,j+1,A50,n50,c50,A27,c28⟩:World×Nat×Option Addr×Nat×Nat×Option Addr×Nat) ⟨hw6,(Or.inr hle),(by rw [j50,pow_sq]),(by rw [j50];exact hsq),(by rw [←pow_sq];exact o50),(hb36.ext e48),((pw30.updT hb35 u37 (by decide) (by decide)).ext e48),(Nat.le_trans hpb0 ((Nat.le_trans (Nat.le_trans (Nat.le_trans (Nat.le_trans e21.size e26.size) uo31.size) u37.by_.size) e48.size))),((((hoa.ext (e21.trans e26)).updOT ow33 (by decide) uo31).updT hb35 (by decide) u37).ext e48)⟩ (show 64-(j+1)<64-j by omega) rfl ⟨rfl,rfl,rfl,rfl,rfl,rfl,trivial⟩)))
   · 
    refine cw_region (mv 2 rfl (cl (vs:= [.slice QA qn qc,.slice A4 n4 c4]) hw1 (rx_Cmp hq.wi (by omega) hoa.wi (by omega)) rfl (by kernel_rfl) fun xr53 v51 r53 e52 hw2=>?_))
    obtain rfl:=r53
    refine wl_cmp rfl rfl rfl false (cmp3_leF (by omega)) (by decide) (ne_ (cw_false rfl (cw_exit (eo_thenX (eo_loopX (eo_block_here (eo_then (sr (mv 3 rfl (pf g11 0 rfl (by kernel_rfl) (pf g11 3 rfl (by kernel_rfl) (wl_load rfl rfl (load_cell (fun _=>by kernel_rfl) (b_g.ext e52) rfl) (by decide) (pu (v:= .int .i64 ((j:Nat):Int)) rfl (by kernel_rfl) ?_)))))))))))))
    refine wl_ar rfl rfl rfl (((j:Nat):Int)-1) (ar_i64s rfl (by omega) (by omega)) (by decide) (wl_call rfl rfl (vs:= [.pointer (some ⟨g11,0,none⟩),.slice A4 n4 c4,.int .i64 (((j:Nat):Int)-1),I0]) (by kernel_rfl) (by decide) (rx_halves (j) (lb:=v5.heap.size) (bs:= []) rfl (hS.ext hw2) (Nat.lt_of_lt_of_le (World.block_lt_of_cell? w _ (hS 0 (by decide))) hle0) hbl hbu (b_g.ext e52) (Own.nil _ _ _ _) hgl (Nat.le_trans hpb0 (e52.size)) (hoa.ext e52).wi (by omega) rfl p9 (by decide) hlen0 ((hPw.ext e52).mono (Nat.zero_le _)) (Nat.le_refl _) (by omega)) ?_)
    rintro _ v54 ⟨rfl,A55,n56,c57,hb58,ho59,uw60,kp61⟩
    refine ret_intro ?_
    have hw3:=uw60.ext hw2 hle0
    refine ne_ (sr (mv 1 rfl (pf g11 0 rfl (by kernel_rfl) (pf g11 4 rfl (by kernel_rfl) (wl_load rfl rfl (load_cell (fun _=>by kernel_rfl) hb58 rfl) (by decide) (wl_toStr rfl rfl ho59 (by decide) (mv 2 rfl (ne_ (cw_ret (eo_ret [.string (strB ([]++txt (padTo (db base m) 0))),I0] rfl ⟨rfl,rfl,trivial⟩ ?_))))))))))
    have hstr:([]++txt (padTo (db base m) 0):List Nat)=txtN base m:=by rw [List.nil_append,padTo_of (Nat.zero_le _),txtN,if_neg hm0]
    exact⟨_,rfl,⟨_,_,rfl,(show Value.string _=Value.string _ from congrArg (fun l=>Value.string (strB l)) hstr),rfl⟩,hw3⟩
  · 
   refine cw_region (mv 1 rfl (pu (v:= .int .i64 ((n4:Nat):Int)) rfl (by kernel_rfl) (wl_cmp rfl rfl rfl false (cb_gt_f (a:=n4) (b:=12) rfl rfl (by omega)) (by decide) (ne_ (cw_false rfl (cw_skip (eo_then (sr (mv 3 rfl (pf g11 0 rfl (by kernel_rfl) (pf g11 3 rfl (by kernel_rfl) (wl_load rfl rfl (load_cell (fun _=>by kernel_rfl) hb14 rfl) (by decide) (pu (v:= .int .i64 0) rfl (by kernel_rfl) ?_)))))))))))))
   refine wl_ar rfl rfl rfl (((0:Nat):Int)-1) (ar_i64s rfl (by omega) (by omega)) (by decide) (wl_call rfl rfl (vs:= [.pointer (some ⟨g11,0,none⟩),.slice A4 n4 c4,.int .i64 (((0:Nat):Int)-1),I0]) (by kernel_rfl) (by decide) (rx_halves 0 (lb:=v5.heap.size) (bs:= []) rfl (hS.ext hw3) (Nat.lt_of_lt_of_le (World.block_lt_of_cell? w _ (hS 0 (by decide))) hle0) hbl hbu hb14 (Own.nil _ _ _ _) hgl (e13.size) (o4.ext (e6.trans e13)).wi (by omega) rfl p9 (by decide) hlen0 (Pw.nil _ _ _) (Nat.le_refl _) (by omega)) ?_)
   rintro _ v62 ⟨rfl,A63,n64,c65,hb66,ho67,uw68,kp69⟩
   refine ret_intro ?_
   have hw4:=uw68.ext hw3 hle0
   refine ne_ (sr (mv 1 rfl (pf g11 0 rfl (by kernel_rfl) (pf g11 4 rfl (by kernel_rfl) (wl_load rfl rfl (load_cell (fun _=>by kernel_rfl) hb66 rfl) (by decide) (wl_toStr rfl rfl ho67 (by decide) (mv 2 rfl (ne_ (cw_ret (eo_ret [.string (strB ([]++txt (padTo (db base m) 0))),I0] rfl ⟨rfl,rfl,trivial⟩ ?_))))))))))
   have hstr:([]++txt (padTo (db base m) 0):List Nat)=txtN base m:=by rw [List.nil_append,padTo_of (Nat.zero_le _),txtN,if_neg hm0]
   exact⟨_,rfl,⟨_,_,rfl,(show Value.string _=Value.string _ from congrArg (fun l=>Value.string (strB l)) hstr),rfl⟩,hw4⟩
theorem run_strix {P:Program}{w:World}{t:TypeId}{bs:List Nat}{i:Nat}(ht:P.underlying t=some .string) (hb:∀b,b∈bs→b<256) (hi:i<bs.length):(Instr.index t (.string (strB bs)) (.int .i64 (i:Int))).run P w= .ok (.int .u8 ((bs.getD i 0:Nat):Int)) w:=by
 have hs:i<(strB bs).size:=by rw [strB_size];exact hi
 rw [run_index_string w t _ _ _ ht,dif_pos ⟨by omega,by omega⟩]
 have e:=strB_get hb hi hs
 simp only [Int.toNat_natCast]
 rw [e]
theorem wl_strix {P:Program}{Q:Exit→Act→World→Prop}{n:Nat}{l:Fr}{w:World}{ops:Array Oper}{rest:List Oper}{d:Nat}{ty:TypeId}{pos:String}{af:Array Edge}{gd:Option (Nat×Bool)}{x y:Operand}{t:TypeId}{bs:List Nat}{i:Nat}(hw:guardB ops l gd=some true)
  (hx:evo l x=some (.string (strB bs))) (hy:evo l y=some (.int .i64 (i:Int))) (ht:P.underlying t=some .string) (hb:∀b,b∈bs→b<256) (hi:i<bs.length) (hn:d<n) (h:wl P ops Q n rest ((d,.int .u8 ((bs.getD i 0:Nat):Int))::l) w):wl P ops Q n (⟨some d,.index t x y,ty,pos,af,gd⟩::rest) l w:=by
 refine wl_val hw hn (fun a' ha=>?_) h
 have e:(Instr.index t (a'.eval x) (a'.eval y)).run P w= .ok (.int .u8 ((bs.getD i 0:Nat):Int)) w:=by rw [ha.ev hx,ha.ev hy];exact run_strix ht hb hi
 show ((Instr.index t (a'.eval x) (a'.eval y)>>=fun r=>pure (Next.value r):Sem Next)).run P w=_
 rw [Sem.run_bind,e];rfl
theorem Rune.eq {bs:List Nat}{p r z:Nat}(h:Rune bs p r z) (hr:r<128):z=1∧r=bs.getD p 0:=by
 by_cases h1:bs.getD p 0<128
 ·exact⟨(h.low h1).2,(h.low h1).1⟩
 ·have:=h.high (by omega);omega
def grp:Bool→List Nat→Option (List Nat)
 | b,[]=>if b then some [] else none
 | b,c::r=>if c=95∧b=true then grp false r else if dv c<10 then (grp true r).map (c:: ·) else none
theorem txtN_lt {b m:Nat}(hb:2≤b) (hb2:b≤36):∀c,c∈txtN b m→c<256:=by
 intro c hc
 unfold txtN at hc
 split at hc
 ·rw [List.mem_singleton] at hc;omega
 ·unfold txt at hc
  obtain⟨d,hd,rfl⟩:=List.mem_map.1 hc
  have h1:=Wfb_db hb m d (List.mem_reverse.1 hd)
  have:=sgn_le (d:=d) (by omega)
  omega
set_option maxHeartbeats 4000000 in
theorem rx_DecF {w:World}{A:Option Addr}{an ac m:Nat}(hS:Signs w) (hx:Wi w A an ac m) (hal:an≤4194304):
    Calls Tryz.prog 100 #[.slice A an ac] w (Gv w (Is (.string (strB (txtN 10 m))))):=by
 refine sx_enter Tryz.func100 rfl (n:=11) rfl (bq rfl) (args:= [.slice A an ac]) (cw_keep [(0,.slice A an ac)] ⟨rfl,trivial⟩ (sr (mv 1 rfl (ne_ (sr (mv 1 rfl (cl (vs:= [.slice A an ac,.int .i64 10]) (Ext.refl w) (rx_Text (base:=10) (hS.ext (Ext.refl w)) hx (by omega) (by decide) (by decide)) rfl (by kernel_rfl) fun xr3 v1 r3 e2 hw1=>?_)))))))
 obtain⟨_,_,rfl,rfl,rfl⟩:=r3
 refine mv 1 rfl (pu (v:= .string (strB (txtN 10 m))) rfl (by kernel_rfl) (pu (v:= .int .i64 0) rfl (by kernel_rfl) (mv 2 rfl (ne_ (sr (mv 2 rfl (ne_ (cw_ret (eo_ret [.string (strB (txtN 10 m))] rfl ⟨rfl,trivial⟩ ?_)))))))))
 exact⟨_,rfl,rfl,hw1⟩
set_option maxHeartbeats 4000000 in
theorem rx_ReadDec_good {w:World}{bs:List Nat}(hbs:∀b,b∈bs→b<256) (hlen:bs.length≤17179869184) (hg:Good 10 bs):
    Calls Tryz.prog 137 #[.string (strB bs)] w (Gv w (T2 (WR w.heap.size (vald 10 (bs.map dv))) (Is (.int .i64 0)))):=by
 refine sx_enter Tryz.func137 rfl (n:=8) rfl (bq rfl) (args:= [.string (strB bs)]) (cw_keep [(0,.string (strB bs))] ⟨rfl,trivial⟩ (sr (mv 2 rfl (ne_ (sr (mv 1 rfl (cl (vs:= [.string (strB bs),.int .i64 10]) (Ext.refl w) (rx_Read_good (Ext.refl w).size (base:=10) (by decide) (by decide) hbs hlen hg) rfl (by kernel_rfl) fun xr3 v1 r3 e2 hw1=>?_)))))))
 obtain⟨_,_,rfl,⟨A5,n5,c5,rfl,j5,o5⟩,rfl⟩:=r3
 refine pu (v:= .slice A5 n5 c5) rfl (by kernel_rfl) (pu (v:= .int .i64 0) rfl (by kernel_rfl) (mv 2 rfl (ne_ (cw_ret (eo_ret [.slice A5 n5 c5,I0] rfl ⟨rfl,rfl,trivial⟩ ?_)))))
 exact⟨_,rfl,⟨_,_,rfl,⟨_,_,_,rfl,j5,o5⟩,rfl⟩,hw1⟩
set_option maxHeartbeats 4000000 in
theorem rx_ReadDec_bad {w:World}{bs:List Nat}(hbs:∀b,b∈bs→b<256) (hlen:bs.length≤17179869184) (hg:¬Good 10 bs):
    Calls Tryz.prog 137 #[.string (strB bs)] w (Gv w (T2 (Is (.slice none 0 0)) (Is (.int .i64 7)))):=by
 refine sx_enter Tryz.func137 rfl (n:=8) rfl (bq rfl) (args:= [.string (strB bs)]) (cw_keep [(0,.string (strB bs))] ⟨rfl,trivial⟩ (sr (mv 2 rfl (ne_ (sr (mv 1 rfl (cl (vs:= [.string (strB bs),.int .i64 10]) (Ext.refl w) (rx_Read_bad (base:=10) (by decide) (by decide) hbs hlen hg) rfl (by kernel_rfl) fun xr3 v1 r3 e2 hw1=>?_)))))))
 obtain⟨_,_,rfl,rfl,rfl⟩:=r3
 refine pu (v:= .slice none 0 0) rfl (by kernel_rfl) (pu (v:= .int .i64 7) rfl (by kernel_rfl) (mv 2 rfl (ne_ (cw_ret (eo_ret [S0,.int .i64 7] rfl ⟨rfl,rfl,trivial⟩ ?_)))))
 exact⟨_,rfl,⟨_,_,rfl,rfl,rfl⟩,hw1⟩
end Go.Proofs.YthggegdkpalgbaaGreatDoor

namespace Go.Proofs.YthggegdkpalgbaaGreatDoor
theorem dv_sgn {d:Nat}(h:d<36):dv (sgn d)=d:=by
 unfold dv sgn
 by_cases h1:d<10
 ·rw [if_pos h1,if_pos (by omega)];omega
 ·rw [if_neg h1,if_neg (by omega),if_pos (by omega)];omega
end Go.Proofs.YthggegdkpalgbaaGreatDoor

namespace Go.Proofs.YthggegdkpalgbaaGreatDoor
open Go.RowKit
theorem strE_eql_t {a b:List Nat}(h:a=b):strE .eql a b=some true:=by simp [strE,h]
theorem strE_eql_f {a b:List Nat}(h:a≠b):strE .eql a b=some false:=by simp [strE,h]
theorem a8_sub {A B:Int}{a b:Nat}(ha:A=(a:Int)) (hb:B=(b:Int)) (h:b≤a) (h2:a≤255):arB .sub .u8 A B=some ((a-b:Nat):Int):=by
 subst ha hb;simp only [arB,Option.some.injEq];rw [show (a:Int)-(b:Int)=((a-b:Nat):Int) by omega,IntWalk.u8_in _ ⟨by omega,by omega⟩]
theorem len_wd_dv {base:Nat}{bs:List Nat}(hbl:2≤base) (hbu:base≤36) (h:∀c,c∈bs→dv c<base):(wd (vald base (bs.map dv))).length≤bs.length:=by
 have:=len_vald (b:=base) (by omega) hbu (dig_map h)
 rwa [List.length_map] at this
theorem take_snoc4 {bs:List Nat}{i:Nat}(h:i<bs.length):bs.take (i+1)=bs.take i++ [bs.getD i 0]:=by
 rw [List.take_add_one,List.getD_eq_getElem?_getD,List.getElem?_eq_getElem h];rfl
end Go.Proofs.YthggegdkpalgbaaGreatDoor

namespace Go.Proofs.YthggegdkpalgbaaGreatDoor
def twice:List Nat→Bool
 | []=>false
 | c::r=>(decide (c=95)&&decide (r.headD 0=95))||twice r
def mixed (l:List Nat):Prop:=∀c,c∈l→dv c<10∨c=95
theorem grp_mixed {l:List Nat}(hm:mixed l):∀b,grp b l=(if (b=false∧l.headD 95=95)∨twice l=true∨(l≠ []∧l.getLast?=some 95) then none else some (l.filter (· ≠95))):=by
 induction l with
 | nil=>
  intro b
  cases b <;> simp [grp,twice]
 | cons c r ih=>
  intro b
  have ih':=ih (fun x hx=>hm x (by simp [hx]))
  by_cases hc:c=95
  ·subst hc
   cases b with
   | false=>
    rw [grp,if_neg (fun h=>by cases h.2),if_neg (by decide),if_pos (Or.inl ⟨rfl,rfl⟩)]
   | true=>
    rw [grp,if_pos ⟨rfl,rfl⟩,ih' false]
    cases r with
    | nil=>simp [twice]
    | cons x r'=>
     have e1:(95::x::r').getLast?=(x::r').getLast?:=by simp [List.getLast?_cons_cons]
     have e2:twice (95::x::r')=(decide (x=95)||twice (x::r')):=by rw [twice];simp
     rw [e1,e2]
     have e3:(95::x::r').filter (· ≠95)=(x::r').filter (· ≠95):=by rw [List.filter_cons_of_neg (by simp)]
     rw [e3]
     by_cases hx:x=95
     ·simp [hx]
     ·simp [hx]
  ·have hd:dv c<10:=by
    rcases hm c (by simp) with h | h
    ·exact h
    ·exact absurd h hc
   rw [grp,if_neg (fun h=>hc h.1),if_pos hd,ih' true]
   have e3:(c::r).filter (· ≠95)=c::r.filter (· ≠95):=by rw [List.filter_cons_of_pos (by simp [hc])]
   have e2:twice (c::r)=twice r:=by rw [twice];simp [hc]
   rw [e3,e2]
   cases r with
   | nil=>simp [hc,twice]
   | cons x r'=>
    have e1:(c::x::r').getLast?=(x::r').getLast?:=by simp [List.getLast?_cons_cons]
    rw [e1]
    by_cases ht:twice (x::r')=true
    ·simp [ht]
    ·by_cases hl:(x::r').getLast?=some 95
     ·simp [hl]
     ·simp [ht,hl,hc]
structure Wide (d l:List Nat):Prop where
 mix:mixed l
 digits:l.filter (· ≠95)=d
 first:l.headD 95≠95
 last:l.getLast?≠some 95
theorem Wide.start {d:List Nat}(h0:d≠ []) (h:∀c,c∈d→dv c<10):Wide d d:=by
 have h95:∀c,c∈d→c≠95:=fun c hc e=>by have:=h c hc;rw [e] at this;exact absurd this (by decide)
 refine⟨fun c hc=>Or.inl (h c hc),?_,?_,?_⟩
 ·rw [List.filter_eq_self];intro c hc;simpa using h95 c hc
 ·cases d with
  | nil=>exact absurd rfl h0
  | cons x r=>exact h95 x (by simp)
 ·intro e
  exact h95 95 (List.mem_of_getLast? e) rfl
theorem Wide.put {d l:List Nat}(h:Wide d l){p:Nat}(hp:0<p) (hp2:p<l.length):Wide d (l.take p++ [95]++l.drop p):=by
 refine⟨fun c hc=>?_,?_,?_,?_⟩
 ·simp only [List.mem_append,List.mem_singleton] at hc
  rcases hc with (hc | hc) | hc
  ·exact h.mix c (List.mem_of_mem_take hc)
  ·exact Or.inr hc
  ·exact h.mix c (List.mem_of_mem_drop hc)
 ·rw [List.filter_append,List.filter_append]
  have:([95]:List Nat).filter (· ≠95)= []:=by decide
  rw [this,List.append_nil,←List.filter_append,List.take_append_drop]
  exact h.digits
 ·have h1:=h.first
  cases l with
  | nil=>simp at hp2
  | cons x r=>
   cases p with
   | zero=>omega
   | succ p=>simpa using h1
 ·obtain⟨x,hx⟩:∃x,l.getLast?=some x:=⟨_,List.getLast?_eq_some_getLast (fun e=>by rw [e] at hp2;simp at hp2)⟩
  rw [List.getLast?_append,List.getLast?_drop,if_neg (by omega),hx]
  have:=h.last
  rw [hx] at this
  simpa using this
theorem Wide.reads {d l:List Nat}(h:Wide d l) (ht:twice l=false):grp false l=some d:=by
 rw [grp_mixed h.mix,if_neg,h.digits]
 rintro (⟨_,h1⟩ | h1 | ⟨_,h1⟩)
 ·exact h.first h1
 ·rw [ht] at h1;cases h1
 ·exact h.last h1
theorem Wide.twice {d l:List Nat}(h:Wide d l) (ht:twice l=true):grp false l=none:=by
 rw [grp_mixed h.mix,if_pos (Or.inr (Or.inl ht))]
theorem Wide.behind {d l:List Nat}(h:Wide d l):grp false (l++ [95])=none:=by
 rw [grp_mixed,if_pos (Or.inr (Or.inr ⟨by simp,by simp⟩))]
 intro c hc
 rcases List.mem_append.1 hc with hc | hc
 ·exact h.mix c hc
 ·exact Or.inr (List.mem_singleton.1 hc)
end Go.Proofs.YthggegdkpalgbaaGreatDoor

namespace Go.Proofs.YthggegdkpalgbaaGreatDoor
open Go.ChangeShapes Go.WideShapes Go.ChangeAt Go.RowKit
theorem strB_extract (bs:List Nat) (i j:Nat):(strB bs).extract i j=strB ((bs.take j).drop i):=by
 refine ByteArray.ext ?_
 rw [ByteArray.data_extract]
 unfold strB
 rw [List.extract_toArray,List.extract_eq_take_drop,List.map_drop,List.map_take,List.drop_take]
theorem strB_to (bs:List Nat) (j:Nat):(strB bs).extract 0 j=strB (bs.take j):=by rw [strB_extract,List.drop_zero]
theorem strB_from (bs:List Nat) (i:Nat):(strB bs).extract i (strB bs).size=strB (bs.drop i):=by rw [strB_extract,strB_size,List.take_length]
section
variable {P:Program}{Q:Exit→Act→World→Prop}{n:Nat}{l:Fr}{w:World}{ops:Array Oper}{rest:List Oper}{d:Nat}{ty:TypeId}{pos:String}{af:Array Edge}{gd:Option (Nat×Bool)}
theorem run_sliceAt_str {t:TypeId}{s:ByteArray}{low high:Option Value}(ht:P.underlying t=some .string):(Instr.sliceAt t (.string s) low high none).run P w=(Instr.slice t (.string s) low high none).run P w:=by
 have hu:(underlying t).run P w= .ok .string w:=run_underlying ht w
 unfold Instr.sliceAt
 simp only [Sem.run_bind,hu,Result.andThen_ok]
theorem wl_strhi {x y:Operand}{t:TypeId}{bs:List Nat}{i:Nat}(hw:guardB ops l gd=some true) (hx:evo l x=some (.string (strB bs))) (hy:evo l y=some (.int .i64 (i:Int))) (ht:P.underlying t=some .string) (hi:i≤bs.length) (hn:d<n)
  (h:wl P ops Q n rest ((d,.string (strB (bs.take i)))::l) w):wl P ops Q n (⟨some d,.slice t x none (some y) none,ty,pos,af,gd⟩::rest) l w:=
 wl_val hw hn (fun a' ha=>by
  have e:(Instr.sliceAt t (a'.eval x) (Option.map a'.eval none) ((some y).map a'.eval) (Option.map a'.eval none)).run P w= .ok (.string (strB (bs.take i))) w:=by
   show (Instr.sliceAt t (a'.eval x) none (some (a'.eval y)) none).run P w=_
   rw [ha.ev hx,ha.ev hy,run_sliceAt_str ht,run_slice_string_h (ht:=ht) (kh:= .i64) (h:=(i:Int)) (h0:=by omega) (h2:=by rw [strB_size];omega),Int.toNat_natCast,strB_to]
  show ((Instr.sliceAt t (a'.eval x) (Option.map a'.eval none) ((some y).map a'.eval) (Option.map a'.eval none)>>=fun r=>pure (Next.value r):Sem Next)).run P w=_
  rw [Sem.run_bind,e];rfl) h
theorem wl_strlo {x y:Operand}{t:TypeId}{bs:List Nat}{i:Nat}(hw:guardB ops l gd=some true) (hx:evo l x=some (.string (strB bs))) (hy:evo l y=some (.int .i64 (i:Int))) (ht:P.underlying t=some .string) (hi:i≤bs.length) (hn:d<n)
  (h:wl P ops Q n rest ((d,.string (strB (bs.drop i)))::l) w):wl P ops Q n (⟨some d,.slice t x (some y) none none,ty,pos,af,gd⟩::rest) l w:=
 wl_val hw hn (fun a' ha=>by
  have e:(Instr.sliceAt t (a'.eval x) ((some y).map a'.eval) (Option.map a'.eval none) (Option.map a'.eval none)).run P w= .ok (.string (strB (bs.drop i))) w:=by
   show (Instr.sliceAt t (a'.eval x) (some (a'.eval y)) none none).run P w=_
   rw [ha.ev hx,ha.ev hy,run_sliceAt_str ht,run_slice_string_l (ht:=ht) (kl:= .i64) (l:=(i:Int)) (h0:=by omega) (h1:=by rw [strB_size];omega),Int.toNat_natCast,strB_from]
  show ((Instr.sliceAt t (a'.eval x) ((some y).map a'.eval) (Option.map a'.eval none) (Option.map a'.eval none)>>=fun r=>pure (Next.value r):Sem Next)).run P w=_
  rw [Sem.run_bind,e];rfl) h
end
structure Rn (w:World) (A:Option Addr) (n cap:Nat) (xs:List Int):Prop where
 len:xs.length=n
 get:∀i,i<n→∃a,A=some a∧w.cell? (a.add i)=some (.int .i64 (xs.getD i 0))∧ -9223372036854775808≤xs.getD i 0∧xs.getD i 0≤9223372036854775807
theorem Rn.at {w:World}{A:Option Addr}{n cap:Nat}{xs:List Int}(h:Rn w A n cap xs){i:Nat}(hi:i<n):∃p,A.map (·.add (i*1))=some p∧w.cell? p=some (.int .i64 (xs.getD i 0))∧ -9223372036854775808≤xs.getD i 0∧xs.getD i 0≤9223372036854775807:=by
 obtain⟨a,rfl,h1,h2⟩:=h.get i hi
 exact⟨a.add i,by rw [Nat.mul_one];rfl,h1,h2⟩
end Go.Proofs.YthggegdkpalgbaaGreatDoor

namespace Go.Proofs.YthggegdkpalgbaaGreatDoor
open Go.RowKit
theorem g_same5 {w:World}{b b':Nat}{A B:Option Addr}{n c m d k:Nat}(hx:Own w b 67 1 A n c ((wd k).map W64)) (hl:n≤1099511627776) (hy:Own w b' 67 1 B m d ((wd k).map W64)) (hl':m≤1099511627776):
  Calls Tryz.prog 97 #[.slice A n c,.slice B m d] w (Gv w (Is (.bool true))):=by
 have h:=ref1_Same (hx.rd (Wf_wd _)) hl (hy.rd (Wf_wd _)) hl'
 rw [decide_eq_true rfl] at h
 exact h.mono gbool
theorem zi_m3 {w w':World}{g:Nat}(h:NewBk w w' g 67 [.int .u64 3,.int .u64 0]):Zi w' true (some ⟨g,0,none⟩) 2 2 (-3):=by
 refine⟨[3,0],⟨⟨rfl,Nat.le_refl _,by decide,fun i hi=>⟨_,rfl,?_⟩,fun a ha _=>by cases ha;exact h.bk.lt⟩,?_⟩,by decide+kernel⟩
 ·rw [add_lit0,Nat.zero_add,h.bk.cell (by simpa using hi)];rfl
 ·intro x hx
  rw [WB_def]
  rcases List.mem_cons.1 hx with rfl | hx
  ·decide
  ·rw [List.mem_singleton] at hx;subst hx;decide
def sumL (zs:List Int):Int:=zs.foldl (fun s z=>s+z) 0
theorem getD_snoc5 {α:Type}{l:List α}{k:Nat}{d:α}(h:k<l.length):l.take (k+1)=l.take k++ [l.getD k d]:=by
 rw [List.take_add_one,List.getD_eq_getElem?_getD,List.getElem?_eq_getElem h];rfl
theorem sumL_succ {zs:List Int}{k:Nat}(h:k<zs.length):sumL (zs.take k)+zs.getD k 0=sumL (zs.take (k+1)):=by
 rw [getD_snoc5 (d:=0) h];unfold sumL;rw [List.foldl_append];rfl
theorem ln_sumL {zs:List Int}{N:Nat}(h:∀i,ln (zs.getD i 0)≤N) (k:Nat):ln (sumL (zs.take k))≤N+k:=by
 induction k with
 | zero=>rw [List.take_zero];exact Nat.zero_le _
 | succ k ih=>
  by_cases hk:k<zs.length
  ·rw [←sumL_succ hk];exact Nat.le_trans (ln_add ih (h k)) (by omega)
  ·rw [List.take_of_length_le (by omega)] at ih⊢;omega
theorem ln_getD5 {zs:List Int}{N:Nat}{w:World}{A:Option Addr}{n cap:Nat}{ms:List Nat}(h:Zl w A n cap zs ms) (hm:∀i,ms.getD i 0≤N) (i:Nat):ln (zs.getD i 0)≤N:=by
 by_cases hi:i<n
 ·obtain⟨p,s,B,c,_,_,hz⟩:=h.at hi
  exact Nat.le_trans hz.ln (hm i)
 ·rw [List.getD_eq_getElem?_getD,List.getElem?_eq_none (by rw [h.len];omega)];exact Nat.zero_le _
set_option maxHeartbeats 4000000 in
theorem g_law5_alike {w:World}{b1 b2:Nat}{sa sb:Bool}{Aa Ab:Option Addr}{na ca nb cb:Nat}{x:Int}(ha:Zr w b1 sa Aa na ca x) (la:na≤1099511627776) (hb:Zr w b2 sb Ab nb cb x) (lb:nb≤1099511627776):
    Calls Tryz.prog 63 #[.agg #[.bool sa,.slice Aa na ca],.agg #[.bool sb,.slice Ab nb cb]] w (Gv w (Is (.bool true))):=by
 refine sx_enter Tryz.func63 rfl (n:=17) rfl (bq rfl) (args:= [.agg #[.bool sa,.slice Aa na ca],.agg #[.bool sb,.slice Ab nb cb]]) (cw_keep [(0,.agg #[.bool sa,.slice Aa na ca]),(1,.agg #[.bool sb,.slice Ab nb cb])] ⟨rfl,rfl,trivial⟩ (sr (bx [.bool sa,.slice Aa na ca] (Ext.refl w) rfl rfl rfl fun g1 v2 hb4 ge5 e3 hw1=>(bxq [.bool sb,.slice Ab nb cb] hw1 hb4.lt rfl rfl rfl fun g6 v7 hb9 ge10 q11 e8 hw2=>(mv 1 rfl (ne_ (cw_seq ?_)))))))
 by_cases hx0:x<0
 · 
  obtain rfl:sa=true:=by rw [ha.sgn,decide_eq_true hx0]
  obtain rfl:sb=true:=by rw [hb.sgn,decide_eq_true hx0]
  refine cw_region (pf g1 0 rfl (by kernel_rfl) (wl_load rfl rfl (load_cell cellBool (hb4.ext e8) rfl) (by decide) (pf g6 0 rfl (by kernel_rfl) (wl_load rfl rfl (load_cell cellBool hb9 rfl) (by decide) (pu (v:= .bool true) rfl (by kernel_rfl) (mv 1 rfl (pf g1 1 rfl (by kernel_rfl) (wl_load rfl rfl (load_cell cellWords (hb4.ext e8) rfl) (by decide) (pf g6 1 rfl (by kernel_rfl) (wl_load rfl rfl (load_cell cellWords hb9 rfl) (by decide) (cl (vs:= [.slice Aa na ca,.slice Ab nb cb]) hw2 (g_same5 (ha.ext (e3.trans e8)).own la (hb.ext (e3.trans e8)).own lb) rfl (by kernel_rfl) fun xr14 v12 r14 e13 hw3=>?_)))))))))))
  obtain rfl:=r14
  refine pu (v:= .bool true) rfl (by kernel_rfl) (mv 1 rfl (ne_ (cw_ret (eo_ret [.bool true] rfl ⟨rfl,trivial⟩ ?_))))
  exact⟨_,rfl,rfl,hw3⟩
 · 
  obtain rfl:sa=false:=by rw [ha.sgn,decide_eq_false hx0]
  obtain rfl:sb=false:=by rw [hb.sgn,decide_eq_false hx0]
  refine cw_region (pf g1 0 rfl (by kernel_rfl) (wl_load rfl rfl (load_cell cellBool (hb4.ext e8) rfl) (by decide) (pf g6 0 rfl (by kernel_rfl) (wl_load rfl rfl (load_cell cellBool hb9 rfl) (by decide) (pu (v:= .bool true) rfl (by kernel_rfl) (mv 1 rfl (pf g1 1 rfl (by kernel_rfl) (wl_load rfl rfl (load_cell cellWords (hb4.ext e8) rfl) (by decide) (pf g6 1 rfl (by kernel_rfl) (wl_load rfl rfl (load_cell cellWords hb9 rfl) (by decide) (cl (vs:= [.slice Aa na ca,.slice Ab nb cb]) hw2 (g_same5 (ha.ext (e3.trans e8)).own la (hb.ext (e3.trans e8)).own lb) rfl (by kernel_rfl) fun xr17 v15 r17 e16 hw3=>?_)))))))))))
  obtain rfl:=r17
  refine pu (v:= .bool true) rfl (by kernel_rfl) (mv 1 rfl (ne_ (cw_ret (eo_ret [.bool true] rfl ⟨rfl,trivial⟩ ?_))))
  exact⟨_,rfl,rfl,hw3⟩
set_option maxHeartbeats 4000000 in
theorem g_law5_awake {w:World}(hS:Signs w):
    Calls Tryz.prog 7 #[] w (Gv w (Is (.bool true))):=by
 refine sx_enter Tryz.func7 rfl (n:=29) rfl (bq rfl) (args:= []) (cw_keep [] trivial (sr (mv 1 rfl (ne_ (sr (wl_bslice rfl rfl (by decide) (k:=2) (e:=67) [.int .u64 3,.int .u64 0] (fun _=>by kernel_rfl) fun g1 v2 nb=>?_))))))
 have z4:=zi_m3 nb
 have e3:=nb.ext
 clear nb
 have hw1:=(Ext.refl w).trans e3
 refine pu (v:= .agg #[.bool true,.slice (some ⟨g1,0,none⟩) 2 2]) rfl (by kernel_rfl) (wl_bslice rfl rfl (by decide) (k:=1) (e:=67) [.int .u64 5] (fun _=>by kernel_rfl) fun g5 v6 nb7=>?_)
 have o8:=O1.mk_ (x:=5) (b:=w.heap.size) nb7 hw1.size
 have e9:=nb7.ext
 have hw2:=hw1.trans e9
 have o11:=own1_wd o8 (by decide:5≤18446744073709551615) (by decide:5≠0)
 have j10:=len1 (by decide:5≤18446744073709551615) (by decide:5≠0)
 refine pu (v:= .agg #[F0,.slice (some ⟨g5,0,none⟩) 1 1]) rfl (by kernel_rfl) (cl (vs:= [.agg #[.bool true,.slice (some ⟨g1,0,none⟩) 2 2],.agg #[F0,.slice (some ⟨g5,0,none⟩) 1 1]]) hw2 (g_zint_Mul hw2.size (z4.ext e9) (by decide) (Zr_nat j10 o11).zi ((Zr_nat j10 o11).le (Nat.le_trans (show ln ((5:Nat):Int)≤1 by rw [ln_nat];exact (Nat.le_of_eq j10.symm)) (by decide)))) rfl (by kernel_rfl) fun xr14 v12 r14 e13 hw3=>?_)
 obtain⟨s15,A15,n15,c15,rfl,z15⟩:=r14
 refine al [F0,S0] hw3 (fun _=>by kernel_rfl) rfl fun g16 v17 hb19 ge20 e18 hw4=>(so aggInt hb19 [.bool s15,.slice A15 n15 c15] hw4 ge20 rfl rfl rfl rfl fun v21 hb23 u24 hw5=>(ne_ (sr (lo aggInt hb23 [.bool s15,.slice A15 n15 c15] rfl rfl rfl (wl_call rfl rfl (vs:= [.agg #[.bool s15,.slice A15 n15 c15]]) (by kernel_rfl) (by decide) (by have h:=rx_zText (x:= -3*((5:Nat):Int)) ((z15.ext e18).updT hb19 u24).zi (z15.le (Nat.le_trans (show ln (-3*((5:Nat):Int))≤1 by decide+kernel) (by decide))) (hS.ext hw5) (by decide+kernel);rw [show txtZ (-3*((5:Nat):Int))= [45,49,53] by decide+kernel] at h;exact h) ?_)))))
 rintro _ v26 ⟨xr28,rfl,r28,e27⟩
 refine ret_intro ?_
 have hw6:=hw5.trans e27
 obtain rfl:=r28
 refine mv 1 rfl (ne_ (cw_seq ?_))
 have hlen:=(((z15.ext e18).updT hb19 u24).ext e27).len
 rw [show ln (-3*((5:Nat):Int))=1 by decide+kernel] at hlen
 obtain rfl:s15=true:=by rw [(((z15.ext e18).updT hb19 u24).ext e27).sgn];decide
 refine cw_region (mv 1 rfl (pu (v:= .bool true) rfl (by kernel_rfl) (mv 1 rfl (pf g16 0 rfl (by kernel_rfl) (wl_load rfl rfl (load_cell cellBool (hb23.ext e27) rfl) (by decide) (pu (v:= .bool true) rfl (by kernel_rfl) (mv 1 rfl (pf g16 1 rfl (by kernel_rfl) (wl_load rfl rfl (load_cell cellWords (hb23.ext e27) rfl) (by decide) (pu (v:= .int .i64 ((n15:Nat):Int)) rfl (by kernel_rfl) (wl_cmp rfl rfl rfl true (eq_t (by omega)) (by decide) (pu (v:= .bool true) rfl (by kernel_rfl) (mv 1 rfl ?_)))))))))))))
 refine pf g16 1 rfl (by kernel_rfl) (wl_load rfl rfl (load_cell cellWords (hb23.ext e27) rfl) (by decide) ?_)
 obtain⟨p9,hp9,hc9,hv9⟩:=(((z15.ext e18).updT hb19 u24).ext e27).rd.at (i:=0) (by omega)
 rw [show (wd (Int.natAbs (-3*((5:Nat):Int)))).getD 0 0=15 by decide+kernel] at hc9
 refine wl_idx rfl rfl rfl un_u64 sz_u64 0 rfl (by omega) p9 hp9 (by decide) (wl_load rfl rfl (load_cell1 ag_u64 hc9) (by decide) (wl_cmp rfl rfl rfl true (by decide) (by decide) (pu (v:= .bool true) rfl (by kernel_rfl) (mv 1 rfl (ne_ (cw_ret (eo_ret [.bool true] rfl ⟨rfl,trivial⟩ ?_)))))))
 exact⟨_,rfl,rfl,hw6⟩
set_option maxHeartbeats 4000000 in
theorem g_zint_Sum {w:World}{b:Nat}(hb:b≤w.heap.size){A:Option Addr}{n cap:Nat}{zs:List Int}{ms:List Nat}(hl:Zl w A n cap zs ms) (hn:n≤1048576) (hmb:∀i,ms.getD i 0≤16777216):
    Calls Tryz.prog 59 #[.slice A n cap] w (Gv w (ZR b (sumL zs))):=by
 have hln:∀i,ln (zs.getD i 0)≤16777216:=ln_getD5 hl hmb
 refine sx_enter Tryz.func59 rfl (n:=18) rfl (bq rfl) (args:= [.slice A n cap]) (cw_keep [(0,.slice A n cap)] ⟨rfl,trivial⟩ (sr (al [F0,S0] (Ext.refl w) (fun _=>by kernel_rfl) rfl fun g1 v2 hb4 ge5 e3 hw1=>(ne_ (sr (pu (v:= .agg #[F0,S0]) rfl (by kernel_rfl) (alq [F0,S0] hw1 hb4.lt (fun _=>by kernel_rfl) rfl fun g6 v7 hb9 ge10 q11 e8 hw2=>(so aggInt hb9 [F0,S0] hw2 ge10 rfl rfl rfl rfl fun v12 hb14 u15 hw3=>(ne_ (cw_seq (sr (mv 1 rfl (pu (v:= .int .i64 ((n:Nat):Int)) rfl (by kernel_rfl) ?_)))))))))))))
 refine mv 1 rfl (ne_ (cw_block ?_))
 refine cw_loop (T:=World×Nat×ZC)
  (fun⟨wr,k,kg⟩=> [(2,.pointer (some ⟨g1,0,none⟩)),(3,.pointer (some ⟨g6,0,none⟩)),(7,.slice A n cap),(8,.int .i64 ((n:Nat):Int)),(9,.int .i64 ((k:Nat):Int))])
  (fun⟨wr,k,kg⟩=>wr)
  (fun⟨wr,k,kg⟩=>(Ext w wr)∧(k≤n)∧(Bk wr g1 26 [F0,S0])∧(Bk wr g6 26 [.bool kg.s,.slice kg.A kg.n kg.c])∧(Zr wr w.heap.size kg.s kg.A kg.n kg.c (sumL (zs.take k))))
  (fun⟨wr,k,kg⟩=>n-k)
  (⟨v12,0,⟨false,none,0,0⟩⟩:World×Nat×ZC) ⟨hw3,Nat.zero_le _,((hb4.ext e8).updN u15 (by omega)),hb14,Zr.zero⟩ rfl ⟨rfl,rfl,rfl,rfl,rfl,trivial⟩ ?_
 rintro⟨wr,k,kg⟩ ⟨hw1,hk,b_2,b_3,zg⟩
 refine cw_re [(2,.pointer (some ⟨g1,0,none⟩)),(3,.pointer (some ⟨g6,0,none⟩)),(7,.slice A n cap),(8,.int .i64 ((n:Nat):Int)),(9,.int .i64 ((k:Nat):Int))] wr rfl ⟨rfl,rfl,rfl,rfl,rfl,trivial⟩ ?_
 have hsl:ln (sumL (zs.take k))≤33554432:=Nat.le_trans (ln_sumL hln k) (by omega)
 refine cw_seq ?_
 by_cases hkn:k<n
 · 
  refine cw_region (wl_cmp rfl rfl rfl true (cb_lt_t (a:=k) (b:=n) rfl rfl (by omega)) (by decide) (ne_ (cw_seq (cw_true rfl (cw_skip (eo_then (cw_seq (cw_block (sr ?_)))))))))
  obtain⟨pz17,sz17,Bz17,cz17,hpz17,ldz17,ez17⟩:=hl.at (i:=k) (by omega)
  refine wl_idx rfl rfl rfl elemI aggInt.size k rfl (by omega) pz17 hpz17 (by decide) (wl_load rfl rfl (ldz17 _ hw1 _ _ aggInt) (by decide) (alq [F0,S0] hw1 b_3.lt (fun _=>by kernel_rfl) rfl fun g18 v19 hb21 ge22 q23 e20 hw2=>(so aggInt hb21 [.bool sz17,.slice Bz17 (ms.getD k 0) cz17] hw2 ge22 rfl rfl rfl rfl fun v24 hb26 u27 hw3=>(ne_ (cw_region (lo aggInt ((b_3.ext e20).updN u27 (by omega)) [.bool kg.s,.slice kg.A kg.n kg.c] rfl rfl rfl (lo aggInt hb26 [.bool sz17,.slice Bz17 (ms.getD k 0) cz17] rfl rfl rfl ?_)))))))
  have L29:ln ((sumL (zs.take k))+(zs.getD k 0))≤33554433:=Nat.le_trans (ln_add hsl (Nat.le_trans ez17.ln (hmb k))) (by decide)
  refine cl (vs:= [.agg #[.bool kg.s,.slice kg.A kg.n kg.c],.agg #[.bool sz17,.slice Bz17 (ms.getD k 0) cz17]]) hw3 (g_zint_Add hw3.size ((zg.ext e20).updT hb21 u27).zi (zg.le (lx_ hsl rfl)) (ez17.ext hw3) (Nat.le_trans (hmb k) (by decide))) rfl (by kernel_rfl) fun xr32 v30 r32 e31 hw4=>?_
  obtain⟨s33,A33,n33,c33,rfl,z33⟩:=r32
  have hb35:=(((b_3.ext e20).updN u27 (by omega)).ext e31)
  refine so aggInt hb35 [.bool s33,.slice A33 n33 c33] hw4 ge10 rfl rfl rfl rfl fun v34 hb36 u37 hw5=>(wl_nil (eo_block_normal (eo_then (cw_region (wl_ar rfl rfl rfl ((k+1:Nat):Int) (ai_add (a:=k) (b:=1) rfl rfl (by omega)) (by decide) (mv 1 rfl (wl_nil (eo_round (⟨v34,k+1,⟨s33,A33,n33,c33⟩⟩:World×Nat×ZC) ⟨hw5,(by omega),((((b_2.ext e20).updN u27 (by omega)).ext e31).updN u37 (by omega)),hb36,((z33.updT hb35 u37)).cast (sumL_succ (by rw [hl.len];omega))⟩ (show n-(k+1)<n-k by omega) rfl ⟨rfl,rfl,rfl,rfl,rfl,trivial⟩))))))))
 · 
  refine cw_region (wl_cmp rfl rfl rfl false (cb_lt_f (a:=k) (b:=n) rfl rfl (by omega)) (by decide) (ne_ (cw_seq (cw_false rfl (cw_exit (eo_thenX (eo_loopX (eo_block_here (eo_then (sr (lo aggInt b_3 [.bool kg.s,.slice kg.A kg.n kg.c] rfl rfl rfl ?_)))))))))))
  have hb40:=b_2
  refine so aggInt hb40 [.bool kg.s,.slice kg.A kg.n kg.c] hw1 ge5 rfl rfl rfl rfl fun v39 hb41 u42 hw2=>(ne_ (cw_ret (eo_ret [.agg #[.bool kg.s,.slice kg.A kg.n kg.c]] rfl ⟨⟨_,rfl,load_agg aggInt hb41 [.bool kg.s,.slice kg.A kg.n kg.c] rfl (bq rfl) rfl⟩,trivial⟩ ?_)))
  have hkn2:k=n:=by omega
  exact⟨_,rfl,⟨_,_,_,_,rfl,(((zg.updT hb40 u42)).cast (show sumL (zs.take k)=sumL zs by rw [hkn2,List.take_of_length_le (by rw [hl.len];exact Nat.le_refl _)])).mono hb⟩,hw2⟩
theorem g_zint_CmpAbs {w:World}{s t:Bool}{A B:Option Addr}{n cap m cap':Nat}{x y:Int}(hx:Zi w s A n cap x) (hl:n≤68719476736) (hy:Zi w t B m cap' y) (hl':m≤68719476736):
  Calls Tryz.prog 53 #[.agg #[.bool s,.slice A n cap],.agg #[.bool t,.slice B m cap']] w (Gv w (Is (.int .i64 (cmp3 (Int.natAbs x) (Int.natAbs y))))):=by
 refine (zint_CmpAbs hx hl hy hl').mono fun e w' h=>?_
 obtain⟨c,h1,_,_,rfl,h2⟩:=h
 exact⟨_,rfl,(show Value.int .i64 c=_ by rw [h1.out]),h2⟩
theorem scmp_cases (x y:Int):(x<y∧scmp x y= -1)∨(x=y∧scmp x y=0)∨(y<x∧scmp x y=1):=by unfold scmp;split <;> (try split) <;> omega
theorem scmp_mul_bd (x y z t:Int): -1≤scmp x y*scmp z t∧scmp x y*scmp z t≤1:=by
 rcases scmp_cases x y with⟨_,e⟩ | ⟨_,e⟩ | ⟨_,e⟩ <;> rw [e] <;> have:=scmp_bd z t <;> omega
theorem neg_i64 {x:Int}(h1: -9223372036854775807≤x) (h2:x≤9223372036854775807):Value.int .i64 (IntKind.i64.wrap (0-x))= .int .i64 (-x):=by rw [IntWalk.i64_in _ ⟨by omega,by omega⟩,Int.zero_sub]
theorem cmp3_gt5t {x y:Nat}(h:y<x):cmpB .gtr (cmp3 x y) 0=some true:=gt_t (cmp3_pos.2 h)
theorem cmp3_gt5f {x y:Nat}(h:x≤y):cmpB .gtr (cmp3 x y) 0=some false:=gt_f (by have:=cmp3_pos (a:=x) (b:=y);omega)
theorem g_zint_of_false {w:World}{b m n c:Nat}{A:Option Addr}(hn:n=(wd m).length) (ho:Own w b 67 1 A n c ((wd m).map W64)):Calls Tryz.prog 98 #[.bool false,.slice A n c] w (Gv w (ZR b ((m:Nat):Int))):=by
 refine (zint_of (s:=false) hn).mono ?_
 rintro e w' ⟨s',rfl,hs,hx⟩
 have e0:s'=false:=by rw [hs.out,sg_false];exact decide_eq_false (by omega)
 subst e0
 exact⟨_,rfl,⟨_,_,_,_,rfl,(Zr_nat hn ho).ext hx⟩,hx⟩
theorem g_zint_of_true {w:World}{b m n c:Nat}{A:Option Addr}(hn:n=(wd m).length) (ho:Own w b 67 1 A n c ((wd m).map W64)):Calls Tryz.prog 98 #[.bool true,.slice A n c] w (Gv w (ZR b (-((m:Nat):Int)))):=by
 refine (zint_of (s:=true) hn).mono ?_
 rintro e w' ⟨s',rfl,hs,hx⟩
 refine⟨_,rfl,⟨_,_,_,_,rfl,?_⟩,hx⟩
 exact (Zr_of (m:=m) (s:=true) (by rw [hs.out]) hn ho (sg_true m)).ext hx
def zng (bs:List Nat):Bool:=if bs.take 1= [43] then false else if bs.take 1= [45] then true else if bs.take 3= [226,136,146] then true else false
def ztl (bs:List Nat):List Nat:=if bs.take 1= [43] then bs.drop 1 else if bs.take 1= [45] then bs.drop 1 else if bs.take 3= [226,136,146] then bs.drop 3 else bs
def zval (bs:List Nat):Int:=if zng bs=true then-((vald 10 ((ztl bs).map dv):Nat):Int) else ((vald 10 ((ztl bs).map dv):Nat):Int)
set_option maxHeartbeats 4000000 in
theorem g_hasPrefixL {w:World}{bs ps:List Nat}(hbs:∀b,b∈bs→b<256) (hps:∀b,b∈ps→b<256):
    Calls Tryz.prog 182 #[.string (strB bs),.string (strB ps)] w (Gv w (Is (.bool (decide (bs.take ps.length=ps))))):=by
 refine sx_enter Tryz.func182 rfl (n:=18) rfl (bq rfl) (args:= [.string (strB bs),.string (strB ps)]) (cw_keep [(0,.string (strB bs)),(1,.string (strB ps))] ⟨rfl,rfl,trivial⟩ (sr (mv 1 rfl (ne_ (cw_seq ?_)))))
 by_cases hge:bs.length≥ps.length
 · 
  by_cases heq:bs.take ps.length=ps
  · 
   refine cw_region (mv 1 rfl (wl_pureE rfl rfl (v:= .int .i64 (((strB bs).size:Nat):Int)) (v':= .int .i64 ((bs.length:Nat):Int)) (by decide) (by kernel_rfl) (by rw [strB_size]) (mv 1 rfl (wl_pureE rfl rfl (v:= .int .i64 (((strB ps).size:Nat):Int)) (v':= .int .i64 ((ps.length:Nat):Int)) (by decide) (by kernel_rfl) (by rw [strB_size]) (wl_cmp rfl rfl rfl true (cb_ge_t (a:=bs.length) (b:=ps.length) rfl rfl (by omega)) (by decide) (mv 3 rfl (wl_pureE rfl rfl (v:= .int .i64 (((strB ps).size:Nat):Int)) (v':= .int .i64 ((ps.length:Nat):Int)) (by decide) (by kernel_rfl) (by rw [strB_size]) (wl_strhi (bs:=bs) (i:=ps.length) rfl rfl rfl Tryz.underlying9 (by omega) (by decide) (mv 1 rfl (wl_streq (a:=bs.take ps.length) (b:=ps) rfl rfl rfl (fun b hb=>hbs b (List.mem_of_mem_take hb)) hps true (strE_eql_t (heq)) (by decide) (pu (v:= .bool true) rfl (by kernel_rfl) (mv 1 rfl (wl_nil ?_)))))))))))))
   refine eo_then (cw_ret (eo_ret [.bool true] rfl ⟨rfl,trivial⟩ ?_))
   exact⟨_,rfl,(show Value.bool true=_ by rw [decide_eq_true heq]),(Ext.refl w)⟩
  · 
   refine cw_region (mv 1 rfl (wl_pureE rfl rfl (v:= .int .i64 (((strB bs).size:Nat):Int)) (v':= .int .i64 ((bs.length:Nat):Int)) (by decide) (by kernel_rfl) (by rw [strB_size]) (mv 1 rfl (wl_pureE rfl rfl (v:= .int .i64 (((strB ps).size:Nat):Int)) (v':= .int .i64 ((ps.length:Nat):Int)) (by decide) (by kernel_rfl) (by rw [strB_size]) (wl_cmp rfl rfl rfl true (cb_ge_t (a:=bs.length) (b:=ps.length) rfl rfl (by omega)) (by decide) (mv 3 rfl (wl_pureE rfl rfl (v:= .int .i64 (((strB ps).size:Nat):Int)) (v':= .int .i64 ((ps.length:Nat):Int)) (by decide) (by kernel_rfl) (by rw [strB_size]) (wl_strhi (bs:=bs) (i:=ps.length) rfl rfl rfl Tryz.underlying9 (by omega) (by decide) (mv 1 rfl (wl_streq (a:=bs.take ps.length) (b:=ps) rfl rfl rfl (fun b hb=>hbs b (List.mem_of_mem_take hb)) hps false (strE_eql_f (heq)) (by decide) (pu (v:= .bool false) rfl (by kernel_rfl) (mv 1 rfl (wl_nil ?_)))))))))))))
   refine eo_then (cw_ret (eo_ret [F0] rfl ⟨rfl,trivial⟩ ?_))
   exact⟨_,rfl,(show Value.bool false=_ by rw [decide_eq_false heq]),(Ext.refl w)⟩
 · 
  have heq:bs.take ps.length≠ps:=fun e=>by have h:=congrArg List.length e;rw [List.length_take] at h;omega
  refine cw_region (mv 1 rfl (wl_pureE rfl rfl (v:= .int .i64 (((strB bs).size:Nat):Int)) (v':= .int .i64 ((bs.length:Nat):Int)) (by decide) (by kernel_rfl) (by rw [strB_size]) (mv 1 rfl (wl_pureE rfl rfl (v:= .int .i64 (((strB ps).size:Nat):Int)) (v':= .int .i64 ((ps.length:Nat):Int)) (by decide) (by kernel_rfl) (by rw [strB_size]) (wl_cmp rfl rfl rfl false (cb_ge_f (a:=bs.length) (b:=ps.length) rfl rfl (by omega)) (by decide) (mv 7 rfl (pu (v:= .bool false) rfl (by kernel_rfl) (mv 1 rfl (ne_ (cw_ret (eo_ret [F0] rfl ⟨rfl,trivial⟩ ?_)))))))))))
  exact⟨_,rfl,(show Value.bool false=_ by rw [decide_eq_false heq]),(Ext.refl w)⟩
set_option maxHeartbeats 4000000 in
theorem g_hasPrefix {w:World}{bs ps:List Nat}(hbs:∀b,b∈bs→b<256) (hps:∀b,b∈ps→b<256):
    Calls Tryz.prog 160 #[.string (strB bs),.string (strB ps)] w (Gv w (Is (.bool (decide (bs.take ps.length=ps))))):=by
 refine sx_enter Tryz.func160 rfl (n:=8) rfl (bq rfl) (args:= [.string (strB bs),.string (strB ps)]) (cw_keep [(0,.string (strB bs)),(1,.string (strB ps))] ⟨rfl,rfl,trivial⟩ (sr (mv 1 rfl (ne_ (sr (mv 2 rfl (cl (vs:= [.string (strB bs),.string (strB ps)]) (Ext.refl w) (g_hasPrefixL hbs hps) rfl (by kernel_rfl) fun xr3 v1 r3 e2 hw1=>?_)))))))
 obtain rfl:=r3
 refine mv 1 rfl (ne_ (cw_ret (eo_ret [.bool (decide (bs.take ps.length=ps))] rfl ⟨rfl,trivial⟩ ?_)))
 exact⟨_,rfl,rfl,hw1⟩
set_option maxHeartbeats 4000000 in
theorem rx_zRead_all {w:World}{bs:List Nat}(hbs:∀b,b∈bs→b<256) (hlen:bs.length≤17179869184):
    Calls Tryz.prog 128 #[.string (strB bs)] w (fun e w'=>(Good 10 (ztl bs)→Gv w (T2 (ZR w.heap.size (zval bs)) (Is (.int .i64 0))) e w')∧(¬Good 10 (ztl bs)→Gv w (T2 (Is (.agg #[.bool false,.slice none 0 0])) (Is (.int .i64 7))) e w')):=by
 refine sx_enter Tryz.func128 rfl (n:=34) rfl (bq rfl) (args:= [.string (strB bs)]) (cw_keep [(0,.string (strB bs))] ⟨rfl,trivial⟩ (sr (al [F0,S0] (Ext.refl w) (fun _=>by kernel_rfl) rfl fun g1 v2 hb4 ge5 e3 hw1=>(mv 1 rfl (ne_ (sr (mv 1 rfl (ne_ (cw_seq (cw_block (cw_seq ?_)))))))))))
 by_cases hf1:bs.take 1= [43]
 · 
  have hzl:ztl bs=bs.drop 1:=by unfold ztl;rw [if_pos hf1]
  have hzn:zng bs=false:=by unfold zng;rw [if_pos hf1]
  have hln:1≤bs.length:=by have h:=congrArg List.length hf1;rw [List.length_take] at h;simp only [List.length_cons,List.length_nil] at h;omega
  refine cw_region (mv 1 rfl (wl_call rfl rfl (vs:= [.string (strB bs),.string (strB ([43]))]) (by kernel_rfl) (by decide) (by have h:=g_hasPrefix (w:=v2) (bs:=bs) (ps:= [43]) hbs (by decide);rw [decide_eq_true (show bs.take ([43]:List Nat).length= [43] by exact hf1)] at h;exact h) ?_))
  rintro _ v6 ⟨xr8,rfl,r8,e7⟩
  refine ret_intro ?_
  have hw2:=hw1.trans e7
  obtain rfl:=r8
  refine mv 1 rfl (ne_ (cw_true rfl (cw_region (mv 1 rfl (wl_strlo (bs:=bs) (i:=1) rfl rfl rfl Tryz.underlying9 (by omega) (by decide) (mv 1 rfl (wl_nil (eo_block_normal (eo_then (cw_seq ?_))))))))))
  have hbt:∀b,b∈bs.drop 1→b<256:=fun b hb=>hbs b (List.mem_of_mem_drop hb)
  have hlt:(bs.drop 1).length≤17179869184:=by rw [List.length_drop];omega
  by_cases hg:Good 10 (bs.drop 1)
  · 
   have hnz:=len_wd_dv (base:=10) (by decide) (by decide) hg.2
   refine cw_region (mv 1 rfl (cl (vs:= [.string (strB (bs.drop 1))]) hw2 ((rx_ReadDec_good hbt hlt hg).mono (Gv.imp (T2.imp (WR.imp hw2.size) Is.imp))) rfl (by kernel_rfl) fun xr11 v9 r11 e10 hw3=>?_))
   obtain⟨_,_,rfl,⟨A13,n13,c13,rfl,j13,o13⟩,rfl⟩:=r11
   refine mv 1 rfl (pu (v:= .slice A13 n13 c13) rfl (by kernel_rfl) (pu (v:= .int .i64 0) rfl (by kernel_rfl) (mv 2 rfl (ne_ (cw_seq (sr (mv 1 rfl (wl_cmp rfl rfl rfl false (by decide) (by decide) (ne_ (cw_false rfl (cw_skip (eo_then (cw_seq ?_)))))))))))))
   refine cw_region (mv 2 rfl (cl (vs:= [F0,.slice A13 n13 c13]) hw3 (g_zint_of_false j13 o13) rfl (by kernel_rfl) fun xr16 v14 r16 e15 hw4=>?_))
   obtain⟨s17,A17,n17,c17,rfl,z17⟩:=r16
   have hb19:=(hb4.ext (e7.trans (e10.trans e15)))
   refine so aggInt hb19 [.bool s17,.slice A17 n17 c17] hw4 ge5 rfl rfl rfl rfl fun v18 hb20 u21 hw5=>(mv 1 rfl (ne_ (cw_ret (eo_ret [.agg #[.bool s17,.slice A17 n17 c17],I0] rfl ⟨⟨_,rfl,load_agg aggInt hb20 [.bool s17,.slice A17 n17 c17] rfl (bq rfl) rfl⟩,rfl,trivial⟩ (⟨fun _=>⟨_,rfl,⟨_,_,rfl,⟨_,_,_,_,rfl,?_⟩,rfl⟩,hw5⟩,fun h=>absurd (show Good 10 (ztl bs) by rw [hzl];exact hg) h⟩)))))
   have h:=(z17.updT hb19 u21)
   rw [zval,hzn,hzl]
   exact h
  · 
   refine cw_region (mv 1 rfl (cl (vs:= [.string (strB (bs.drop 1))]) hw2 (rx_ReadDec_bad hbt hlt hg) rfl (by kernel_rfl) fun xr25 v23 r25 e24 hw3=>?_))
   obtain⟨_,_,rfl,rfl,rfl⟩:=r25
   refine mv 1 rfl (pu (v:= .slice none 0 0) rfl (by kernel_rfl) (pu (v:= .int .i64 7) rfl (by kernel_rfl) (mv 2 rfl (ne_ (cw_seq (sr (mv 1 rfl (wl_cmp rfl rfl rfl true (by decide) (by decide) (ne_ (cw_true rfl (sr (pu (v:= .agg #[F0,S0]) rfl (by kernel_rfl) (mv 1 rfl ?_)))))))))))))
   have hb28:=(hb4.ext (e7.trans e24))
   refine so aggInt hb28 [F0,S0] hw3 ge5 rfl rfl rfl rfl fun v27 hb29 u30 hw4=>(mv 1 rfl (ne_ (cw_ret (eo_thenR (eo_ret [.agg #[F0,S0],.int .i64 7] rfl ⟨⟨_,rfl,load_agg aggInt hb29 [F0,S0] rfl (bq rfl) rfl⟩,rfl,trivial⟩ ?_)))))
   exact⟨fun h=>absurd (by rw [hzl] at h;exact h) hg,fun _=>⟨_,rfl,⟨_,_,rfl,rfl,rfl⟩,hw4⟩⟩
 · 
  by_cases hf2:bs.take 1= [45]
  · 
   have hzl:ztl bs=bs.drop 1:=by unfold ztl;rw [if_neg hf1,if_pos hf2]
   have hzn:zng bs=true:=by unfold zng;rw [if_neg hf1,if_pos hf2]
   have hln:1≤bs.length:=by have h:=congrArg List.length hf2;rw [List.length_take] at h;simp only [List.length_cons,List.length_nil] at h;omega
   refine cw_region (mv 1 rfl (wl_call rfl rfl (vs:= [.string (strB bs),.string (strB ([43]))]) (by kernel_rfl) (by decide) (by have h:=g_hasPrefix (w:=v2) (bs:=bs) (ps:= [43]) hbs (by decide);rw [decide_eq_false (show¬bs.take ([43]:List Nat).length= [43] by exact hf1)] at h;exact h) ?_))
   rintro _ v32 ⟨xr34,rfl,r34,e33⟩
   refine ret_intro ?_
   have hw2:=hw1.trans e33
   obtain rfl:=r34
   refine mv 1 rfl (ne_ (cw_false rfl (sr (mv 1 rfl (wl_call rfl rfl (vs:= [.string (strB bs),.string (strB ([45]))]) (by kernel_rfl) (by decide) (by have h:=g_hasPrefix (w:=v32) (bs:=bs) (ps:= [45]) hbs (by decide);rw [decide_eq_true (show bs.take ([45]:List Nat).length= [45] by exact hf2)] at h;exact h) ?_)))))
   rintro _ v35 ⟨xr37,rfl,r37,e36⟩
   refine ret_intro ?_
   have hw3:=hw2.trans e36
   obtain rfl:=r37
   refine mv 1 rfl (ne_ (cw_true rfl (cw_region (mv 1 rfl (wl_strlo (bs:=bs) (i:=1) rfl rfl rfl Tryz.underlying9 (by omega) (by decide) (mv 2 rfl (wl_nil (eo_block_normal (eo_then (cw_seq ?_))))))))))
   have hbt:∀b,b∈bs.drop 1→b<256:=fun b hb=>hbs b (List.mem_of_mem_drop hb)
   have hlt:(bs.drop 1).length≤17179869184:=by rw [List.length_drop];omega
   by_cases hg:Good 10 (bs.drop 1)
   · 
    have hnz:=len_wd_dv (base:=10) (by decide) (by decide) hg.2
    refine cw_region (mv 1 rfl (cl (vs:= [.string (strB (bs.drop 1))]) hw3 ((rx_ReadDec_good hbt hlt hg).mono (Gv.imp (T2.imp (WR.imp hw3.size) Is.imp))) rfl (by kernel_rfl) fun xr40 v38 r40 e39 hw4=>?_))
    obtain⟨_,_,rfl,⟨A42,n42,c42,rfl,j42,o42⟩,rfl⟩:=r40
    refine mv 1 rfl (pu (v:= .slice A42 n42 c42) rfl (by kernel_rfl) (pu (v:= .int .i64 0) rfl (by kernel_rfl) (mv 2 rfl (ne_ (cw_seq (sr (mv 1 rfl (wl_cmp rfl rfl rfl false (by decide) (by decide) (ne_ (cw_false rfl (cw_skip (eo_then (cw_seq ?_)))))))))))))
    refine cw_region (mv 2 rfl (cl (vs:= [.bool true,.slice A42 n42 c42]) hw4 (g_zint_of_true j42 o42) rfl (by kernel_rfl) fun xr45 v43 r45 e44 hw5=>?_))
    obtain⟨s46,A46,n46,c46,rfl,z46⟩:=r45
    have hb48:=(hb4.ext (e33.trans (e36.trans (e39.trans e44))))
    refine so aggInt hb48 [.bool s46,.slice A46 n46 c46] hw5 ge5 rfl rfl rfl rfl fun v47 hb49 u50 hw6=>(mv 1 rfl (ne_ (cw_ret (eo_ret [.agg #[.bool s46,.slice A46 n46 c46],I0] rfl ⟨⟨_,rfl,load_agg aggInt hb49 [.bool s46,.slice A46 n46 c46] rfl (bq rfl) rfl⟩,rfl,trivial⟩ (⟨fun _=>⟨_,rfl,⟨_,_,rfl,⟨_,_,_,_,rfl,?_⟩,rfl⟩,hw6⟩,fun h=>absurd (show Good 10 (ztl bs) by rw [hzl];exact hg) h⟩)))))
    have h:=(z46.updT hb48 u50)
    rw [zval,hzn,hzl]
    exact h
   · 
    refine cw_region (mv 1 rfl (cl (vs:= [.string (strB (bs.drop 1))]) hw3 (rx_ReadDec_bad hbt hlt hg) rfl (by kernel_rfl) fun xr54 v52 r54 e53 hw4=>?_))
    obtain⟨_,_,rfl,rfl,rfl⟩:=r54
    refine mv 1 rfl (pu (v:= .slice none 0 0) rfl (by kernel_rfl) (pu (v:= .int .i64 7) rfl (by kernel_rfl) (mv 2 rfl (ne_ (cw_seq (sr (mv 1 rfl (wl_cmp rfl rfl rfl true (by decide) (by decide) (ne_ (cw_true rfl (sr (pu (v:= .agg #[F0,S0]) rfl (by kernel_rfl) (mv 1 rfl ?_)))))))))))))
    have hb57:=(hb4.ext (e33.trans (e36.trans e53)))
    refine so aggInt hb57 [F0,S0] hw4 ge5 rfl rfl rfl rfl fun v56 hb58 u59 hw5=>(mv 1 rfl (ne_ (cw_ret (eo_thenR (eo_ret [.agg #[F0,S0],.int .i64 7] rfl ⟨⟨_,rfl,load_agg aggInt hb58 [F0,S0] rfl (bq rfl) rfl⟩,rfl,trivial⟩ ?_)))))
    exact⟨fun h=>absurd (by rw [hzl] at h;exact h) hg,fun _=>⟨_,rfl,⟨_,_,rfl,rfl,rfl⟩,hw5⟩⟩
  · 
   by_cases hf3:bs.take 3= [226,136,146]
   · 
    have hzl:ztl bs=bs.drop 3:=by unfold ztl;rw [if_neg hf1,if_neg hf2,if_pos hf3]
    have hzn:zng bs=true:=by unfold zng;rw [if_neg hf1,if_neg hf2,if_pos hf3]
    have hln:3≤bs.length:=by have h:=congrArg List.length hf3;rw [List.length_take] at h;simp only [List.length_cons,List.length_nil] at h;omega
    refine cw_region (mv 1 rfl (wl_call rfl rfl (vs:= [.string (strB bs),.string (strB ([43]))]) (by kernel_rfl) (by decide) (by have h:=g_hasPrefix (w:=v2) (bs:=bs) (ps:= [43]) hbs (by decide);rw [decide_eq_false (show¬bs.take ([43]:List Nat).length= [43] by exact hf1)] at h;exact h) ?_))
    rintro _ v61 ⟨xr63,rfl,r63,e62⟩
    refine ret_intro ?_
    have hw2:=hw1.trans e62
    obtain rfl:=r63
    refine mv 1 rfl (ne_ (cw_false rfl (sr (mv 1 rfl (wl_call rfl rfl (vs:= [.string (strB bs),.string (strB ([45]))]) (by kernel_rfl) (by decide) (by have h:=g_hasPrefix (w:=v61) (bs:=bs) (ps:= [45]) hbs (by decide);rw [decide_eq_false (show¬bs.take ([45]:List Nat).length= [45] by exact hf2)] at h;exact h) ?_)))))
    rintro _ v64 ⟨xr66,rfl,r66,e65⟩
    refine ret_intro ?_
    have hw3:=hw2.trans e65
    obtain rfl:=r66
    refine mv 1 rfl (ne_ (cw_false rfl (sr (mv 1 rfl (wl_call rfl rfl (vs:= [.string (strB bs),.string (strB ([226,136,146]))]) (by kernel_rfl) (by decide) (by have h:=g_hasPrefix (w:=v64) (bs:=bs) (ps:= [226,136,146]) hbs (by decide);rw [decide_eq_true (show bs.take ([226,136,146]:List Nat).length= [226,136,146] by exact hf3)] at h;exact h) ?_)))))
    rintro _ v67 ⟨xr69,rfl,r69,e68⟩
    refine ret_intro ?_
    have hw4:=hw3.trans e68
    obtain rfl:=r69
    refine mv 1 rfl (ne_ (cw_true rfl (cw_region (mv 1 rfl (wl_strlo (bs:=bs) (i:=3) rfl rfl rfl Tryz.underlying9 (by omega) (by decide) (mv 2 rfl (wl_nil (eo_block_normal (eo_then (cw_seq ?_))))))))))
    have hbt:∀b,b∈bs.drop 3→b<256:=fun b hb=>hbs b (List.mem_of_mem_drop hb)
    have hlt:(bs.drop 3).length≤17179869184:=by rw [List.length_drop];omega
    by_cases hg:Good 10 (bs.drop 3)
    · 
     have hnz:=len_wd_dv (base:=10) (by decide) (by decide) hg.2
     refine cw_region (mv 1 rfl (cl (vs:= [.string (strB (bs.drop 3))]) hw4 ((rx_ReadDec_good hbt hlt hg).mono (Gv.imp (T2.imp (WR.imp hw4.size) Is.imp))) rfl (by kernel_rfl) fun xr72 v70 r72 e71 hw5=>?_))
     obtain⟨_,_,rfl,⟨A74,n74,c74,rfl,j74,o74⟩,rfl⟩:=r72
     refine mv 1 rfl (pu (v:= .slice A74 n74 c74) rfl (by kernel_rfl) (pu (v:= .int .i64 0) rfl (by kernel_rfl) (mv 2 rfl (ne_ (cw_seq (sr (mv 1 rfl (wl_cmp rfl rfl rfl false (by decide) (by decide) (ne_ (cw_false rfl (cw_skip (eo_then (cw_seq ?_)))))))))))))
     refine cw_region (mv 2 rfl (cl (vs:= [.bool true,.slice A74 n74 c74]) hw5 (g_zint_of_true j74 o74) rfl (by kernel_rfl) fun xr77 v75 r77 e76 hw6=>?_))
     obtain⟨s78,A78,n78,c78,rfl,z78⟩:=r77
     have hb80:=(hb4.ext (e62.trans (e65.trans (e68.trans (e71.trans e76)))))
     refine so aggInt hb80 [.bool s78,.slice A78 n78 c78] hw6 ge5 rfl rfl rfl rfl fun v79 hb81 u82 hw7=>(mv 1 rfl (ne_ (cw_ret (eo_ret [.agg #[.bool s78,.slice A78 n78 c78],I0] rfl ⟨⟨_,rfl,load_agg aggInt hb81 [.bool s78,.slice A78 n78 c78] rfl (bq rfl) rfl⟩,rfl,trivial⟩ (⟨fun _=>⟨_,rfl,⟨_,_,rfl,⟨_,_,_,_,rfl,?_⟩,rfl⟩,hw7⟩,fun h=>absurd (show Good 10 (ztl bs) by rw [hzl];exact hg) h⟩)))))
     have h:=(z78.updT hb80 u82)
     rw [zval,hzn,hzl]
     exact h
    · 
     refine cw_region (mv 1 rfl (cl (vs:= [.string (strB (bs.drop 3))]) hw4 (rx_ReadDec_bad hbt hlt hg) rfl (by kernel_rfl) fun xr86 v84 r86 e85 hw5=>?_))
     obtain⟨_,_,rfl,rfl,rfl⟩:=r86
     refine mv 1 rfl (pu (v:= .slice none 0 0) rfl (by kernel_rfl) (pu (v:= .int .i64 7) rfl (by kernel_rfl) (mv 2 rfl (ne_ (cw_seq (sr (mv 1 rfl (wl_cmp rfl rfl rfl true (by decide) (by decide) (ne_ (cw_true rfl (sr (pu (v:= .agg #[F0,S0]) rfl (by kernel_rfl) (mv 1 rfl ?_)))))))))))))
     have hb89:=(hb4.ext (e62.trans (e65.trans (e68.trans e85))))
     refine so aggInt hb89 [F0,S0] hw5 ge5 rfl rfl rfl rfl fun v88 hb90 u91 hw6=>(mv 1 rfl (ne_ (cw_ret (eo_thenR (eo_ret [.agg #[F0,S0],.int .i64 7] rfl ⟨⟨_,rfl,load_agg aggInt hb90 [F0,S0] rfl (bq rfl) rfl⟩,rfl,trivial⟩ ?_)))))
     exact⟨fun h=>absurd (by rw [hzl] at h;exact h) hg,fun _=>⟨_,rfl,⟨_,_,rfl,rfl,rfl⟩,hw6⟩⟩
   · 
    have hzl:ztl bs=bs:=by unfold ztl;rw [if_neg hf1,if_neg hf2,if_neg hf3]
    have hzn:zng bs=false:=by unfold zng;rw [if_neg hf1,if_neg hf2,if_neg hf3]
    refine cw_region (mv 1 rfl (wl_call rfl rfl (vs:= [.string (strB bs),.string (strB ([43]))]) (by kernel_rfl) (by decide) (by have h:=g_hasPrefix (w:=v2) (bs:=bs) (ps:= [43]) hbs (by decide);rw [decide_eq_false (show¬bs.take ([43]:List Nat).length= [43] by exact hf1)] at h;exact h) ?_))
    rintro _ v93 ⟨xr95,rfl,r95,e94⟩
    refine ret_intro ?_
    have hw2:=hw1.trans e94
    obtain rfl:=r95
    refine mv 1 rfl (ne_ (cw_false rfl (sr (mv 1 rfl (wl_call rfl rfl (vs:= [.string (strB bs),.string (strB ([45]))]) (by kernel_rfl) (by decide) (by have h:=g_hasPrefix (w:=v93) (bs:=bs) (ps:= [45]) hbs (by decide);rw [decide_eq_false (show¬bs.take ([45]:List Nat).length= [45] by exact hf2)] at h;exact h) ?_)))))
    rintro _ v96 ⟨xr98,rfl,r98,e97⟩
    refine ret_intro ?_
    have hw3:=hw2.trans e97
    obtain rfl:=r98
    refine mv 1 rfl (ne_ (cw_false rfl (sr (mv 1 rfl (wl_call rfl rfl (vs:= [.string (strB bs),.string (strB ([226,136,146]))]) (by kernel_rfl) (by decide) (by have h:=g_hasPrefix (w:=v96) (bs:=bs) (ps:= [226,136,146]) hbs (by decide);rw [decide_eq_false (show¬bs.take ([226,136,146]:List Nat).length= [226,136,146] by exact hf3)] at h;exact h) ?_)))))
    rintro _ v99 ⟨xr101,rfl,r101,e100⟩
    refine ret_intro ?_
    have hw4:=hw3.trans e100
    obtain rfl:=r101
    refine mv 1 rfl (ne_ (cw_false rfl (cw_skip (eo_block_normal (eo_then (cw_seq ?_))))))
    have hbt:∀b,b∈bs→b<256:=hbs
    have hlt:(bs).length≤17179869184:=by omega
    by_cases hg:Good 10 (bs)
    · 
     have hnz:=len_wd_dv (base:=10) (by decide) (by decide) hg.2
     refine cw_region (mv 1 rfl (cl (vs:= [.string (strB bs)]) hw4 ((rx_ReadDec_good hbt hlt hg).mono (Gv.imp (T2.imp (WR.imp hw4.size) Is.imp))) rfl (by kernel_rfl) fun xr104 v102 r104 e103 hw5=>?_))
     obtain⟨_,_,rfl,⟨A106,n106,c106,rfl,j106,o106⟩,rfl⟩:=r104
     refine mv 1 rfl (pu (v:= .slice A106 n106 c106) rfl (by kernel_rfl) (pu (v:= .int .i64 0) rfl (by kernel_rfl) (mv 2 rfl (ne_ (cw_seq (sr (mv 1 rfl (wl_cmp rfl rfl rfl false (by decide) (by decide) (ne_ (cw_false rfl (cw_skip (eo_then (cw_seq ?_)))))))))))))
     refine cw_region (mv 2 rfl (cl (vs:= [F0,.slice A106 n106 c106]) hw5 (g_zint_of_false j106 o106) rfl (by kernel_rfl) fun xr109 v107 r109 e108 hw6=>?_))
     obtain⟨s110,A110,n110,c110,rfl,z110⟩:=r109
     have hb112:=(hb4.ext (e94.trans (e97.trans (e100.trans (e103.trans e108)))))
     refine so aggInt hb112 [.bool s110,.slice A110 n110 c110] hw6 ge5 rfl rfl rfl rfl fun v111 hb113 u114 hw7=>(mv 1 rfl (ne_ (cw_ret (eo_ret [.agg #[.bool s110,.slice A110 n110 c110],I0] rfl ⟨⟨_,rfl,load_agg aggInt hb113 [.bool s110,.slice A110 n110 c110] rfl (bq rfl) rfl⟩,rfl,trivial⟩ (⟨fun _=>⟨_,rfl,⟨_,_,rfl,⟨_,_,_,_,rfl,?_⟩,rfl⟩,hw7⟩,fun h=>absurd (show Good 10 (ztl bs) by rw [hzl];exact hg) h⟩)))))
     have h:=(z110.updT hb112 u114)
     rw [zval,hzn,hzl]
     exact h
    · 
     refine cw_region (mv 1 rfl (cl (vs:= [.string (strB bs)]) hw4 (rx_ReadDec_bad hbt hlt hg) rfl (by kernel_rfl) fun xr118 v116 r118 e117 hw5=>?_))
     obtain⟨_,_,rfl,rfl,rfl⟩:=r118
     refine mv 1 rfl (pu (v:= .slice none 0 0) rfl (by kernel_rfl) (pu (v:= .int .i64 7) rfl (by kernel_rfl) (mv 2 rfl (ne_ (cw_seq (sr (mv 1 rfl (wl_cmp rfl rfl rfl true (by decide) (by decide) (ne_ (cw_true rfl (sr (pu (v:= .agg #[F0,S0]) rfl (by kernel_rfl) (mv 1 rfl ?_)))))))))))))
     have hb121:=(hb4.ext (e94.trans (e97.trans (e100.trans e117))))
     refine so aggInt hb121 [F0,S0] hw5 ge5 rfl rfl rfl rfl fun v120 hb122 u123 hw6=>(mv 1 rfl (ne_ (cw_ret (eo_thenR (eo_ret [.agg #[F0,S0],.int .i64 7] rfl ⟨⟨_,rfl,load_agg aggInt hb122 [F0,S0] rfl (bq rfl) rfl⟩,rfl,trivial⟩ ?_)))))
     exact⟨fun h=>absurd (by rw [hzl] at h;exact h) hg,fun _=>⟨_,rfl,⟨_,_,rfl,rfl,rfl⟩,hw6⟩⟩
theorem rx_zRead {w:World}{b:Nat}(hb:b≤w.heap.size){bs tl:List Nat}{z:Int}(hbs:∀b,b∈bs→b<256) (hlen:bs.length≤17179869184) (ht:ztl bs=tl) (hg:Good 10 tl) (hz:zval bs=z):Calls Tryz.prog 128 #[.string (strB bs)] w (Gv w (T2 (ZR b z) (Is (.int .i64 0)))):=
 (rx_zRead_all hbs hlen).mono fun e w' h=>by have h2:=h.1 (by rw [ht];exact hg);rw [hz] at h2;exact Gv.imp (T2.imp (ZR.imp hb) Is.imp) _ _ h2
theorem rx_zRead_bad {w:World}{bs tl:List Nat}(hbs:∀b,b∈bs→b<256) (hlen:bs.length≤17179869184) (ht:ztl bs=tl) (hg:¬Good 10 tl):Calls Tryz.prog 128 #[.string (strB bs)] w (Gv w (T2 (Is (.agg #[.bool false,.slice none 0 0])) (Is (.int .i64 7)))):=
 (rx_zRead_all hbs hlen).mono fun e w' h=>h.2 (by rw [ht];exact hg)
set_option maxHeartbeats 4000000 in
theorem rx_zTextF {w:World}{sa:Bool}{Aa:Option Addr}{na ca:Nat}{x:Int}(hx:Zi w sa Aa na ca x) (la:na≤4194304) (hS:Signs w):
    Calls Tryz.prog 29 #[.agg #[.bool sa,.slice Aa na ca]] w (Gv w (Is (.string (strB (txtZ x))))):=by
 have Lx:ln x≤4194304:=Nat.le_trans hx.ln la
 refine sx_enter Tryz.func29 rfl (n:=13) rfl (bq rfl) (args:= [.agg #[.bool sa,.slice Aa na ca]]) (cw_keep [(0,.agg #[.bool sa,.slice Aa na ca])] ⟨rfl,trivial⟩ (sr (bx [.bool sa,.slice Aa na ca] (Ext.refl w) rfl rfl rfl fun g1 v2 hb4 ge5 e3 hw1=>(mv 1 rfl (ne_ (sr (pf g1 1 rfl (by kernel_rfl) (wl_load rfl rfl (load_cell cellWords hb4 rfl) (by decide) (cl (vs:= [.slice Aa na ca]) hw1 (rx_DecF (hS.ext hw1) (hx.ext hw1).wi (by omega)) rfl (by kernel_rfl) fun xr8 v6 r8 e7 hw2=>?_)))))))))
 obtain rfl:=r8
 refine mv 1 rfl (ne_ (cw_seq (cw_seq ?_)))
 by_cases hx0:x<0
 · 
  refine cw_region (lo aggInt (hb4.ext e7) [.bool sa,.slice Aa na ca] rfl rfl rfl (cl (vs:= [.agg #[.bool sa,.slice Aa na ca]]) hw2 (g_zint_Sign (hx.ext hw2) (lx_ la rfl)) rfl (by kernel_rfl) fun xr11 v9 r11 e10 hw3=>?_))
  obtain rfl:=r11
  refine wl_cmp rfl rfl rfl true (scmp_lt_t hx0) (by decide) (ne_ (cw_true rfl (sr (mv 1 rfl (wl_op rfl rfl rfl (r:= .string (strB (([45])++(txtN 10 (Int.natAbs x))))) rfl (fun w=>str_add (a:= [45]) (b:=txtN 10 (Int.natAbs x)) (by have:=txtN_len (b:=10) (by decide) (show (wd (Int.natAbs x)).length≤4194304 from Lx);show 1+_≤_;omega)) (by decide) (mv 1 rfl (ne_ (cw_ret (eo_thenR (eo_ret [.string (strB (([45])++(txtN 10 (Int.natAbs x))))] rfl ⟨rfl,trivial⟩ ?_))))))))))
  exact⟨_,rfl,(show Value.string _= .string (strB (txtZ x)) by rw [txtZ,if_pos hx0]),hw3⟩
 · 
  refine cw_region (lo aggInt (hb4.ext e7) [.bool sa,.slice Aa na ca] rfl rfl rfl (cl (vs:= [.agg #[.bool sa,.slice Aa na ca]]) hw2 (g_zint_Sign (hx.ext hw2) (lx_ la rfl)) rfl (by kernel_rfl) fun xr14 v12 r14 e13 hw3=>?_))
  obtain rfl:=r14
  refine wl_cmp rfl rfl rfl false (scmp_lt_f (by omega)) (by decide) (ne_ (cw_false rfl (cw_skip (eo_then (sr (mv 2 rfl (ne_ (cw_ret (eo_ret [.string (strB (txtN 10 (Int.natAbs x)))] rfl ⟨rfl,trivial⟩ ?_)))))))))
  exact⟨_,rfl,(show Value.string _= .string (strB (txtZ x)) by rw [txtZ,if_neg hx0]),hw3⟩
theorem infoInt:(Tryz.prog.info? 3).map (fun i=>(i.zero,i.size,i.bytes))=some (some (.int .i64 0),1,8):=by kernel_rfl
abbrev I6 (x:Nat):Value:= .int .i64 (x:Int)
theorem map_I6_set (xs:List Nat) (i x:Nat):(xs.map I6).set i (.int .i64 (x:Int))=(xs.set i x).map I6:=by rw [List.map_set]
theorem replicate_I6 (n:Nat):List.replicate n (Value.int .i64 0)=(List.replicate n 0).map I6:=by rw [List.map_replicate];rfl
structure Ri (b:Nat) (w:World) (A:Option Addr) (n cap:Nat) (ds:List Nat):Prop where
 rv:Rv w 1 A n cap (ds.map I6)
 wf:Wfb b ds
theorem Ri.ext {b:Nat}{w w':World}{A:Option Addr}{n cap:Nat}{xs:List Nat}(h:Ri b w A n cap xs) (e:Ext w w'):Ri b w' A n cap xs:=⟨h.rv.ext e,h.wf⟩
theorem Ri.len {b:Nat}{w:World}{A:Option Addr}{n cap:Nat}{xs:List Nat}(h:Ri b w A n cap xs):xs.length=n:=by simpa using h.rv.len
theorem Ri.get {b:Nat}(hb:0<b){w:World}{A:Option Addr}{n cap:Nat}{xs:List Nat}(h:Ri b w A n cap xs){i:Nat}(hi:i<n):
  ∃a x,A=some a∧Hid (xs.getD i 0=x)∧x<b∧w.cell? (a.add i)=some (.int .i64 (x:Int)):=by
 obtain⟨a,ha,hc⟩:=h.rv.get i (by omega)
 have hl:i<xs.length:=by rw [h.len];exact hi
 refine⟨a,_,ha,rfl,Wfb_getD hb h.wf i,?_⟩
 rw [hc]
 simp [List.getD_eq_getElem?_getD,List.getElem?_map,List.getElem?_eq_getElem hl]
theorem Bk.digit {b:Nat}(hb:0<b){w:World}{g:Nat}{t:TypeId}{xs:List Nat}(h:Bk w g t (xs.map I6)) (hw:Wfb b xs){i:Nat}(hi:i<xs.length):
  ∃x,Hid (xs.getD i 0=x)∧x<b∧w.cell? ⟨g,i,none⟩=some (.int .i64 (x:Int)):=by
 refine⟨_,rfl,Wfb_getD hb hw i,?_⟩
 rw [h.cell (by simpa using hi)]
 simp [List.getD_eq_getElem?_getD,List.getElem?_map,List.getElem?_eq_getElem hi]
theorem Bk.ri {b:Nat}{w:World}{g:Nat}{t:TypeId}{xs:List Nat}(h:Bk w g t (xs.map I6)) (hw:Wfb b xs){o n cap:Nat}(hn:n≤cap) (hc:o+cap≤xs.length) (hm:cap≤maxLen):Ri b w (some ⟨g,o,none⟩) n cap ((xs.drop o).take n):=by
 refine⟨?_,Wfb_take (Wfb_drop hw _) _⟩
 rw [List.map_take,List.map_drop]
 exact h.rv hn (by simpa using hc) hm
theorem Rv.take {w:World}{s:Nat}{A:Option Addr}{n cap:Nat}{vs:List Value}(h:Rv w s A n cap vs){k m:Nat}(hk:k≤n) (hm:k≤m) (hc:m≤cap):Rv w s A k m (vs.take (k*s)):=by
 have:=h.cut (l:=0) (Nat.zero_le _) hk hm hc
 simp only [Nat.sub_zero,Nat.zero_mul,List.drop_zero] at this
 have e:(if m=0 then A else A.map (·.add 0))=A:=by
  have h0:∀a:Addr,a.add 0=a:=fun a=>by simp [Addr.add]
  split
  ·rfl
  ·cases A <;> simp [h0]
 rwa [e] at this
theorem Own.take {w:World}{base:Nat}{t:TypeId}{s:Nat}{A:Option Addr}{n cap:Nat}{vs:List Value}(h:Own w base t s A n cap vs){k:Nat}(hk:k≤n):Own w base t s A k cap (vs.take (k*s)):=by
 rcases h with⟨rfl,rfl,rfl,rfl⟩ | ⟨g,cs,rfl,hb,hbk,hn,hm,hl,rfl⟩
 ·exact Or.inl ⟨rfl,by omega,rfl,by simp⟩
 ·refine Or.inr ⟨g,cs,rfl,hb,hbk,by omega,hm,hl,?_⟩
  rw [List.take_take,Nat.min_eq_left (Nat.mul_le_mul_right s hk)]
def RetI (w:World) (m:Nat) (e:Ending) (w':World):Prop:=
 ∃A n cap,e= .returned (.slice A n cap)∧Hid (n=(db 65536 m).length)∧Ri 65536 w' A n cap (db 65536 m)∧Own w' w.heap.size 3 1 A n cap ((db 65536 m).map I6)∧Ext w w'
theorem b16:2≤65536:=by decide
theorem WB_16:WB=65536^4:=by decide
def TrimP (A:Option Addr) (n cap:Nat) (m:Nat) (w:World) (e:Ending) (w':World):Prop:=
 ∃k:Nat,Hid (k=(db 65536 m).length)∧k≤n∧e= .returned (.slice A k cap)∧w=w'
theorem ref1_trim {w:World}{A:Option Addr}{n cap:Nat}{ds:List Nat}(hx:Ri 65536 w A n cap ds) (hl:n≤1099511627776):
  Calls Tryz.prog 173 #[.slice A n cap] w (TrimP A n cap (nb 65536 ds) w):=by
 have hlen:=Lib.hid hx.len
 have hcap:=hx.rv.le
 go_enter Tryz.func173,Tryz.ntmps173
 go_wp2_with fail
 go_loop [3] (fun u=>∃k:Nat,k≤n∧u= .int .i64 (k:Int)∧nb 65536 (ds.take k)=nb 65536 ds) (fun u=>(intOf u).toNat)
 case atStart=>exact⟨n,Nat.le_refl _,rfl,by rw [←hlen.out,List.take_length]⟩
 case round=>
  obtain⟨k,hk,rfl,hv⟩:=hrel
  have HV:=Lib.hid hv
  clear hv
  by_cases h0:0<k
  ·obtain⟨a,x,rfl,hxk,hxb,hc⟩:=hx.get (by omega) (i:=k-1) (by omega)
   by_cases hz:x=0
   ·subst hz
    go_wp2_with fail
    go_round
    case rel=>
     refine⟨k-1,by omega,by congr 1;omega,?_⟩
     rw [←HV.out,←nb_take_zero 65536 ds (k-1) (by rw [hlen.out];omega) hxk.out,Nat.sub_add_cancel h0]
    case measure=>simp [intOf];omega
   ·have hzb:((x:Int)==0)=false:=by simp;omega
    go_wp2_with fail
    go_ret
    refine⟨k,?_,hk,?_,rfl⟩
    ·have:=db_take b16 (k:=k) hx.wf (by rw [hlen.out];exact hk) HV.out (Or.inr (by rw [hxk.out];exact hz))
     show k=_
     rw [this,List.length_take,hlen.out];omega
    ·rfl
  ·go_wp2_with fail
   go_ret
   refine⟨k,?_,hk,?_,rfl⟩
   ·have:=db_take b16 (k:=k) hx.wf (by rw [hlen.out];exact hk) HV.out (Or.inl (by omega))
    show k=_
    rw [this,List.length_take,hlen.out];omega
   ·rfl
theorem split_step {ds:List Nat}{n x w:Nat}(hl:ds.length=n) (h:nb 65536 ds+65536^n*w=x):nb 65536 (ds++ [w%65536])+65536^(n+1)*(w/65536)=x:=by
 rw [nb_snoc,hl,Nat.pow_succ,Nat.mul_assoc,Nat.add_assoc,←Nat.mul_add,Nat.mod_add_div]
 exact h
theorem ref1_Split {w:World}{A:Option Addr}{n cap:Nat}{xs:List Nat}(hx:Rd w A n cap xs) (hl:n≤274877906943):
  Calls Tryz.prog 142 #[.slice A n cap] w (RetI w (nv xs)):=by
 have hlx:=Lib.hid hx.len
 have hmk:=run_make0 (P:=Tryz.prog) Tryz.underlying114 infoInt rfl (by decide) (4*(n:Int)) (by omega) (by omega)
 have et:(4*(n:Int)).toNat=4*n:=by omega
 rw [et] at hmk
 clear et
 go_enter Tryz.func142,Tryz.ntmps142
 go_wp2_with fail
 clear hmk
 obtain⟨g,hg⟩:∃g,w.heap.size=g:=⟨_,rfl⟩
 rw [hg]
 obtain⟨wa,hwa⟩:∃wa,w.alloc (.cells (zc (.int .i64 0) (4*n)) 3)=wa:=⟨_,rfl⟩
 rw [hwa]
 have hoa:Own wa w.heap.size 3 1 (some ⟨g,0,none⟩) 0 (4*n) (([]:List Nat).map I6):=by
  rw [←hwa,←hg]
  exact Own.mk_ (cs:=List.replicate (4*n) (.int .i64 0)) (Nat.le_refl _) (Bk.new' _ _ _) (by omega) (by rw [len_maxLen];omega) (by simp) (by simp)
 have hea:Ext w wa:=by rw [←hwa];exact (Ext.refl w).alloc _
 clear hg hwa
 go_loopw [4,3] (fun u v wr=>∃(i:Nat) (A':Option Addr) (c':Nat) (ds:List Nat),i≤n∧u= .int .i64 (i:Int)∧v= .slice A' (4*i) c'∧Own wr w.heap.size 3 1 A' (4*i) c' (ds.map I6)∧Wfb 65536 ds∧
  Hid (ds.length=4*i)∧Hid (nb 65536 ds=nv (xs.take i))∧Ext w wr) (fun u v wr=>n-(intOf u).toNat)
 case atStart=>exact⟨0,_,_,[],Nat.zero_le _,rfl,rfl,hoa,Wfb_nil _,rfl,rfl,hea⟩
 case round=>
  obtain⟨i,A',c',ds,hi,rfl,rfl,ho,hw,hdl,hv,hr⟩:=hrel
  clear hoa hea
  by_cases him:i<n
  ·obtain⟨a,x,rfl,hxk,hxb,hcx⟩:=(hx.ext hr).get (i:=i) (by omega)
   go_wp2_with fail
   obtain⟨wo,rfl⟩:∃wo:World,wo=wr:=⟨_,rfl⟩
   go_loopw [6,3,5] (fun u v y wr=>∃(k:Nat) (A':Option Addr) (c':Nat) (ds:List Nat) (q:Nat),k≤4∧u= .int .i64 (k:Int)∧v= .slice A' (4*i+k) c'∧y= .int .u64 (q:Int)∧q≤18446744073709551615∧Own wr w.heap.size 3 1 A' (4*i+k) c' (ds.map I6)∧Wfb 65536 ds∧
    Hid (ds.length=4*i+k)∧Hid (nb 65536 ds+65536^(4*i+k)*q=nv (xs.take (i+1)))∧Hid (q*65536^k<WB)∧Ext w wr) (fun u v y wr=>4-(intOf u).toNat)
   case atStart=>
    refine⟨0,_,_,ds,x,Nat.zero_le _,rfl,rfl,rfl,hxb,ho,hw,hdl,?_,?_,hr⟩
    ·show _=_
     rw [hv.out,nv_take_snoc xs i (by rw [hlx.out];omega),hxk.out,WB_16,←Nat.pow_mul];rfl
    ·show _<_
     rw [WB_def];omega
   case round=>
    obtain⟨k,A2,c2,es,q,hk,rfl,rfl,rfl,hqb,ho2,hw2,hel,hev,hq,hr2⟩:=hrel
    clear ho hw hdl hv
    by_cases hk4:k<4
    ·have r1:(4*i+k+1)*8≤140737488355328:=by omega
     go_wp2_with ((with_reducible refine at_slot (some 30) ?_);refine wpc_append rfl (.tmp 25) (.tmp 29) 114 rfl rfl rfl Tryz.underlying114 infoInt rfl (by decide) (ho2.ext ((Ext.refl _).alloc _)) (Rv.one _ _ _) (by simp [Value.oneCell']) r1 (by rw [len_maxLen];omega) (by have:=hr2.size;simp;omega) ?_;intro A3 c3 w3 ho3 hu3 _)
     have he3:Ext w w3:=hu3.ext (hr2.alloc _) (fun p hp=>(ho2.block p hp).1)
     go_roundw
     case rel=>
      refine⟨k+1,A3,c3,es++ [q%65536],q/65536,by omega,by go_num,rfl,by go_num,by omega,?_,Wfb_append hw2 (Wfb_one (by omega)),?_,split_step hel.out hev.out,?_,he3⟩
      ·have:(es++ [q%65536]).map I6=es.map I6++ [.int .i64 ((q:Int)%65536)]:=by simp
       rw [this];exact ho3
      ·show _=_
       rw [List.length_append,hel.out];rfl
      ·show _<_
       have h2:q/65536*65536≤q:=Nat.div_mul_le_self q 65536
       calc q/65536*65536^(k+1)=(q/65536*65536)*65536^k:=by rw [Nat.pow_succ,Nat.mul_comm (65536^k),Nat.mul_assoc]
        _≤q*65536^k:=Nat.mul_le_mul_right _ h2
        _<WB:=hq.out
     case measure=>simp [intOf];omega
    ·obtain rfl:k=4:=by omega
     have hq0:q=0:=by
      have h:=hq.out
      rw [WB_def] at h
      omega
     go_wp2_with fail
     go_roundw
     case rel=>
      refine⟨i+1,A2,c2,es,by omega,by go_num,rfl,ho2,hw2,hel.out,?_,hr2⟩
      show _=_
      have h:=hev.out
      rw [hq0,Nat.mul_zero,Nat.add_zero] at h
      exact h
     case measure=>simp [intOf];omega
  ·obtain rfl:i=n:=by omega
   have hri:Ri 65536 wr A' (4*i) c' ds:=⟨ho.rv,hw⟩
   go_wp2_with fail
   refine (ref1_trim hri (by omega)).mono ?_
   rintro e w' ⟨k,hk,hkn,rfl,rfl⟩
   go_wp2_with fail
   go_ret
   have e:nb 65536 ds=nv xs:=by rw [hv.out,←hlx.out,List.take_length]
   have e2:=db_take_len b16 hw hk.out
   rw [e] at e2
   have hot:=ho.take hkn
   rw [Nat.mul_one,←List.map_take,←e2] at hot
   refine⟨A',k,c',rfl,?_,⟨hot.rv,Wfb_db b16 _⟩,hot,hr⟩
   show _=_
   rw [hk.out,e]
theorem ref1_Join {w:World}{A:Option Addr}{n cap:Nat}{ds:List Nat}(hx:Ri 65536 w A n cap ds) (hl:n≤1099511627775):
  Calls Tryz.prog 145 #[.slice A n cap] w (RetW w (nb 65536 ds)):=by
 go_enter Tryz.func145,Tryz.ntmps145
 go_wp2_with fail
 refine (ref1_trim hx (by omega)).mono ?_
 rintro e w' ⟨k,hk,hkn,rfl,rfl⟩
 obtain⟨es,hes⟩:∃es,es=db 65536 (nb 65536 ds):=⟨_,rfl⟩
 have hes2:es=ds.take k:=by rw [hes];exact db_take_len b16 hx.wf hk.out
 have hlen:=Lib.hid hx.len
 have he:Ri 65536 w A k cap es:=by
  have h:=hx.rv.take (k:=k) (m:=cap) hkn (by have:=hx.rv.le;omega) (Nat.le_refl _)
  rw [Nat.mul_one,←List.map_take,←hes2] at h
  exact⟨h,by rw [hes2];exact Wfb_take hx.wf _⟩
 have hel:=Lib.hid he.len
 have hval:Hid (nb 65536 es=nb 65536 ds):=by show _=_;rw [hes,nb_db b16]
 have htop:Hid (k=0∨65536^(k-1)≤nb 65536 ds):=by
  by_cases h0:nb 65536 ds=0
  ·left
   have h:=hk.out
   rw [h0,db_zero] at h
   exact h
  ·right
   have:=pow_len_db_le b16 h0
   rwa [←hk.out] at this
 clear hes hes2 hk
 have hmk:=run_make0 (P:=Tryz.prog) Tryz.underlying24 info64 rfl (by decide) ((k:Int)/4+1) (by omega) (by omega)
 have et:((k:Int)/4+1).toNat=k/4+1:=by omega
 rw [et] at hmk
 clear et
 go_wp2_with fail
 clear hmk
 obtain⟨g,hg⟩:∃g,w.heap.size=g:=⟨_,rfl⟩
 rw [hg]
 obtain⟨wa,hwa⟩:∃wa,w.alloc (.cells (zc (.int .u64 0) (k/4+1)) 67)=wa:=⟨_,rfl⟩
 rw [hwa]
 have hoa:Own wa w.heap.size 67 1 (some ⟨g,0,none⟩) 0 (k/4+1) (([]:List Nat).map W64):=by
  rw [←hwa,←hg]
  exact Own.mk_ (cs:=List.replicate (k/4+1) (.int .u64 0)) (Nat.le_refl _) (Bk.new' _ _ _) (by omega) (by rw [len_maxLen];omega) (by simp) (by simp)
 have hea:Ext w wa:=by rw [←hwa];exact (Ext.refl w).alloc _
 clear hg hwa
 go_loopw [4,3] (fun u v wr=>∃(i:Nat) (A':Option Addr) (c':Nat) (ws:List Nat),4*i≤k+3∧u= .int .i64 (4*(i:Int))∧v= .slice A' i c'∧Own wr w.heap.size 67 1 A' i c' (ws.map W64)∧Wf ws∧
  Hid (ws.length=i)∧Hid (nv ws=nb 65536 (es.take (4*i)))∧Ext w wr) (fun u v wr=>k+4-(intOf u).toNat)
 case atStart=>exact⟨0,_,_,[],by omega,rfl,rfl,hoa,Wf_nil,rfl,rfl,hea⟩
 case round=>
  obtain⟨i,A',c',ws,hi,rfl,rfl,ho,hw,hwl,hv,hr⟩:=hrel
  clear hoa hea
  by_cases him:4*i<k
  ·go_wp2_with fail
   obtain⟨wo,rfl⟩:∃wo:World,wo=wr:=⟨_,rfl⟩
   go_loop [6,5] (fun u v=>∃(j q:Nat),j≤4∧u= .int .i64 ((j:Int)-1)∧v= .int .u64 (q:Int)∧Hid (q=nb 65536 ((es.drop (4*i+j)).take (4-j)))) (fun u v=>(intOf u+1).toNat)
   case atStart=>exact⟨4,0,Nat.le_refl _,rfl,rfl,by simp [Hid,nb]⟩
   case round=>
    obtain⟨j,q,hj,rfl,rfl,hq⟩:=hrel
    have hqlt:q<65536^(4-j):=by
     rw [hq.out]
     have h1:=nb_lt (Wfb_take (Wfb_drop he.wf (4*i+j)) (4-j))
     have h2:65536^(List.take (4-j) (List.drop (4*i+j) es)).length≤65536^(4-j):=Nat.pow_le_pow_right (by omega) (by rw [List.length_take];omega)
     omega
    by_cases hj0:0<j
    ·have hqb:q≤281474976710655:=by
      have:(65536:Nat)^(4-j)≤65536^3:=Nat.pow_le_pow_right (by omega) (by omega)
      omega
     clear hqlt
     have hstep:Hid (es.getD (4*i+(j-1)) 0+65536*q=nb 65536 ((es.drop (4*i+(j-1))).take (4-(j-1)))):=by
      show _=_
      have e2:4-(j-1)=(4-j)+1:=by omega
      have e3:4*i+(j-1)+1=4*i+j:=by omega
      rw [e2,nb_drop_take,e3,hq.out]
     by_cases hin:4*i+(j-1)<k
     ·obtain⟨a,x,rfl,hxk,hxb,hcx⟩:=(he.ext hr).get (by omega) (i:=4*i+(j-1)) (by omega)
      have hin':4*(i:Int)+((j:Int)-1)<(k:Int):=by omega
      go_wp2_with fail
      go_round
      case rel=>exact⟨j-1,x+65536*q,by omega,val_int (by omega),val_int (by omega),by show _=_;rw [←hstep.out,hxk.out]⟩
      case measure=>simp [intOf];omega
     ·have hin':¬4*(i:Int)+((j:Int)-1)<(k:Int):=by omega
      go_wp2_with fail
      go_round
      case rel=>exact⟨j-1,65536*q,by omega,val_int (by omega),val_int (by omega),by show _=_;rw [←hstep.out,List.getD_eq_getElem?_getD,List.getElem?_eq_none (by rw [hel.out];omega)];simp⟩
      case measure=>simp [intOf];omega
    ·obtain rfl:j=0:=by omega
     have hqW:q<WB:=by rw [WB_16];exact hqlt
     clear hqlt
     have r1:(i+1)*8≤140737488355328:=by omega
     go_wp2_with ((with_reducible refine at_slot (some 44) ?_);refine wpc_append rfl (.tmp 41) (.tmp 43) 24 rfl rfl rfl Tryz.underlying24 info64 rfl (by decide) (ho.ext ((Ext.refl _).alloc _)) (Rv.one _ _ _) (by simp [Value.oneCell']) r1 (by rw [len_maxLen];omega) (by have:=hr.size;simp;omega) ?_;intro A3 c3 w3 ho3 hu3 _)
     have he3:Ext w w3:=hu3.ext (hr.alloc _) (fun p hp=>(ho.block p hp).1)
     go_roundw
     case rel=>
      refine⟨i+1,A3,c3,ws++ [q],by omega,val_int (by omega),rfl,?_,Wf_append hw (Wf_one hqW),?_,?_,he3⟩
      ·have:(ws++ [q]).map W64=ws.map W64++ [.int .u64 (q:Int)]:=by simp
       rw [this];exact ho3
      ·show _=_
       rw [List.length_append,hwl.out];rfl
      ·show _=_
       rw [nv_snoc,hwl.out,hv.out,show 4*(i+1)=4*i+4 from by omega,nb_take_add 65536 es (4*i) 4 (by rw [hel.out];omega),hq.out,WB_16,←Nat.pow_mul]
       rfl
     case measure=>simp [intOf];omega
  ·go_wp2_with fail
   go_ret
   have e1:nv ws=nb 65536 ds:=by rw [hv.out,List.take_of_length_le (by rw [hel.out];omega),hval.out]
   have e2:wd (nv ws)=ws:=by
    refine wd_of_ge hw ?_
    rw [hwl.out,e1]
    by_cases h0:i=0
    ·exact Or.inl h0
    ·refine Or.inr ?_
     rcases htop.out with h | h
     ·omega
     ·refine Nat.le_trans ?_ h
      rw [WB_16,←Nat.pow_mul]
      exact Nat.pow_le_pow_right (by omega) (by omega)
   rw [←e1]
   rw [←e2] at ho
   refine⟨A',i,c',rfl,?_,ho.rd (by rw [e2];exact hw),ho,hr⟩
   show _=_
   rw [e2,hwl.out]
theorem ref1_order {w:World}{A B:Option Addr}{n cap n' cap' x y:Nat}(hx:Ri 65536 w A n cap (db 65536 x)) (hl:n≤1099511627776) (hy:Ri 65536 w B n' cap' (db 65536 y)) (hl':n'≤1099511627776):
  Calls Tryz.prog 143 #[.slice A n cap,.slice B n' cap'] w (CmpP x y w):=by
 have hlx:=Lib.hid hx.len
 have hly:=Lib.hid hy.len
 rcases Nat.lt_trichotomy n n' with hlt | rfl | hgt
 ·have h1:((n:Int) != (n':Int))=true:=by simp;omega
  go_enter Tryz.func143,Tryz.ntmps143
  go_wp2_with fail
  go_ret
  exact CmpP_mk (cmp3_lt (lt_of_len_db_lt b16 (by rw [hlx.out,hly.out];exact hlt))) (Ext.refl w)
 ·have h1:((n:Int) != (n:Int))=false:=by simp
  obtain⟨ds,hds⟩:∃ds,ds=db 65536 x:=⟨_,rfl⟩
  obtain⟨es,hes⟩:∃es,es=db 65536 y:=⟨_,rfl⟩
  have hvx:=Lib.hid (show nb 65536 ds=x by rw [hds,nb_db b16])
  have hvy:=Lib.hid (show nb 65536 es=y by rw [hes,nb_db b16])
  rw [←hds] at hx hlx
  rw [←hes] at hy hly
  clear hds hes
  go_enter Tryz.func143,Tryz.ntmps143
  go_wp2_with fail
  go_loopw [5] (fun u wr=>∃i:Nat,i≤n∧u= .int .i64 ((i:Int)-1)∧Hid (cmp3 (nb 65536 (ds.take i)) (nb 65536 (es.take i))=cmp3 x y)∧Ext w wr) (fun u wr=>(intOf u+1).toNat)
  case atStart=>exact⟨n,Nat.le_refl _,rfl,(show _=_ by rw [List.take_of_length_le (by rw [hlx.out];omega),List.take_of_length_le (by rw [hly.out];omega),hvx.out,hvy.out]),Ext.refl w⟩
  case round=>
   obtain⟨i,hi,rfl,hv,hext⟩:=hrel
   by_cases h0:0<i
   ·obtain⟨a,p,rfl,hxk,hxb,hc⟩:=(hx.ext hext).get (by omega) (i:=i-1) (by omega)
    obtain⟨b,q,rfl,hyk,hyb,hd⟩:=(hy.ext hext).get (by omega) (i:=i-1) (by omega)
    have hi':i-1+1=i:=by omega
    have hcast:((i-1:Nat):Int)=(i:Int)-1:=by omega
    have b1:(0:Int)≤(i:Int)-1:=by omega
    rcases Nat.lt_trichotomy p q with hlt | rfl | hgt
    ·go_wp2_with fail
     go_quiet (fail)
     go_wp2_with fail
     go_ret
     refine CmpP_mk ?_ (by repeat (first | exact Ext.refl _ | assumption | apply Ext.drewN | apply Ext.drew | apply Ext.alloc))
     rw [←hv.out,←hi']
     exact cmp3_lt (nb_take_succ_lt (by omega) hx.wf (by rw [hlx.out];omega) (by rw [hly.out];omega) (by rw [hxk.out,hyk.out];exact hlt))
    ·go_wp2_with fail
     go_quiet (fail)
     go_wp2_with fail
     go_quiet (fail)
     go_wp2_with fail
     go_roundw
     case rel=>
      refine⟨i-1,by omega,by congr 1;omega,?_,(by repeat (first | exact Ext.refl _ | assumption | apply Ext.drewN | apply Ext.drew | apply Ext.alloc))⟩
      show _=_
      rw [←hv.out,←cmp3_takeb_eq (k:=i-1) (by rw [hlx.out];omega) (by rw [hly.out];omega) (by rw [hxk.out,hyk.out]),hi']
     case measure=>simp [intOf];omega
    ·go_wp2_with fail
     go_quiet (fail)
     go_wp2_with fail
     go_quiet (fail)
     go_wp2_with fail
     go_ret
     refine CmpP_mk ?_ (by repeat (first | exact Ext.refl _ | assumption | apply Ext.drewN | apply Ext.drew | apply Ext.alloc))
     rw [←hv.out,←hi']
     exact cmp3_gt (nb_take_succ_lt (by omega) hy.wf (by rw [hly.out];omega) (by rw [hlx.out];omega) (by rw [hxk.out,hyk.out];exact hgt))
   ·go_wp2_with fail
    go_ret
    refine CmpP_mk ?_ hext
    rw [←hv.out,show i=0 from by omega]
    simp [cmp3_eq]
 ·have h1:((n:Int) != (n':Int))=true:=by simp;omega
  go_enter Tryz.func143,Tryz.ntmps143
  go_wp2_with fail
  go_ret
  exact CmpP_mk (cmp3_gt (lt_of_len_db_lt b16 (by rw [hlx.out,hly.out];exact hgt))) (Ext.refl w)
theorem len_db16_nv {xs:List Nat}(hw:Wf xs):(db 65536 (nv xs)).length≤4*xs.length:=by
 refine len_db_le b16 ?_
 have:=nv_lt hw
 rwa [WB_16,←Nat.pow_mul] at this
theorem ref1_Least {w:World}{A:Option Addr}{n cap:Nat}{xs:List Nat}(hx:Rd w A n cap xs) (hl:n≤274877906943):
  Calls Tryz.prog 141 #[.slice A n cap] w (RetW w (nv xs)):=by
 go_enter Tryz.func141,Tryz.ntmps141
 go_wp2_with fail
 refine (ref1_Split hx hl).mono ?_
 rintro e w1 ⟨A1,n1,c1,rfl,hn1,hr1,_,hx1⟩
 have hb:n1≤1099511627775:=by have:=len_db16_nv hx.wf;rw [hn1.out];rw [hx.len] at this;omega
 go_wp2_with fail
 refine (ref1_Join hr1 hb).mono ?_
 rintro e w2 ⟨A2,n2,c2,rfl,hn2,hr2,ho2,hx2⟩
 go_wp2_with fail
 go_ret
 rw [nb_db b16] at hn2 hr2 ho2
 exact⟨A2,n2,c2,rfl,hn2,hr2,ho2.mono hx1.size,hx1.trans hx2⟩
theorem ref1_Cmp {w:World}{A B:Option Addr}{n cap n' cap':Nat}{xs ys:List Nat}(hx:Rd w A n cap xs) (hl:n≤274877906943) (hy:Rd w B n' cap' ys) (hl':n'≤274877906943):
  Calls Tryz.prog 102 #[.slice A n cap,.slice B n' cap'] w (CmpP (nv xs) (nv ys) w):=by
 go_enter Tryz.func102,Tryz.ntmps102
 go_wp2_with fail
 refine (ref1_Split hx hl).mono ?_
 rintro e w1 ⟨A1,n1,c1,rfl,hn1,hr1,_,hx1⟩
 have hb1:n1≤1099511627775:=by have:=len_db16_nv hx.wf;rw [hn1.out];rw [hx.len] at this;omega
 go_wp2_with fail
 refine (ref1_Split (hy.ext hx1) hl').mono ?_
 rintro e w2 ⟨A2,n2,c2,rfl,hn2,hr2,_,hx2⟩
 have hb2:n2≤1099511627775:=by have:=len_db16_nv hy.wf;rw [hn2.out];rw [hy.len] at this;omega
 go_wp2_with fail
 refine (ref1_order (hr1.ext hx2) (by omega) hr2 (by omega)).mono ?_
 rintro e w3 ⟨c,hc,hc1,hc2,rfl,hx3⟩
 go_wp2_with fail
 go_ret
 exact⟨c,hc,hc1,hc2,rfl,(hx1.trans hx2).trans hx3⟩
theorem ref1_at {w:World}{A:Option Addr}{n cap:Nat}{ds:List Nat}(hx:Ri 65536 w A n cap ds) (hl:n≤1099511627776){i:Int}(h0:0≤i) (hi:i≤4398046511104):
  Calls Tryz.prog 144 #[.slice A n cap,.int .i64 i] w fun e w'=>∃x:Nat,Hid (x=ds.getD i.toNat 0)∧x≤65535∧e= .returned (.int .i64 (x:Int))∧w=w':=by
 obtain⟨k,rfl⟩:=Int.eq_ofNat_of_zero_le h0
 rw [Int.toNat_natCast]
 have hlx:=Lib.hid hx.len
 by_cases hk:k<n
 ·obtain⟨a,x,rfl,hxk,hxb,hc⟩:=hx.get (by omega) (i:=k) hk
  go_enter Tryz.func144,Tryz.ntmps144
  go_wp2_with fail
  go_ret
  exact⟨x,hxk.out.symm,by omega,rfl,rfl⟩
 ·go_enter Tryz.func144,Tryz.ntmps144
  go_wp2_with fail
  go_ret
  refine⟨0,?_,by omega,rfl,rfl⟩
  show _=_
  rw [List.getD_eq_getElem?_getD,List.getElem?_eq_none (by rw [hlx.out];omega)];rfl
theorem nb_take_getD (b:Nat) (xs:List Nat) (k:Nat):nb b (xs.take (k+1))=nb b (xs.take k)+b^k*xs.getD k 0:=by
 by_cases h:k<xs.length
 ·exact nb_take_snoc b xs k h
 ·rw [List.take_of_length_le (by omega),List.take_of_length_le (by omega),List.getD_eq_getElem?_getD,List.getElem?_eq_none (by omega)];simp
theorem addb_step {b:Nat}{l xs ys:List Nat}{i c x y d:Nat}(hli:i<l.length) (h:nb b (l.take i)+b^i*c=nb b (xs.take i)+nb b (ys.take i))
  (hx:x=xs.getD i 0) (hy:y=ys.getD i 0){s:Nat}(hs:s+b*d=x+y+c):
  nb b ((l.set i s).take (i+1))+b^(i+1)*d=nb b (xs.take (i+1))+nb b (ys.take (i+1)):=by
 have e1:(l.set i s).getD i 0=s:=by simp [List.getD_eq_getElem?_getD,hli]
 have e2:(l.set i s).take i=l.take i:=by rw [List.take_set_of_le (Nat.le_refl i)]
 rw [nb_take_snoc b _ i (by rw [List.length_set];exact hli),e1,e2,nb_take_getD b xs i,nb_take_getD b ys i,←hx,←hy,Nat.pow_succ,Nat.mul_assoc]
 have e4:b^i*(s+b*d)=b^i*(x+y+c):=by rw [hs]
 simp only [Nat.mul_add] at e4
 omega
theorem ref1_Add {w:World}{A B:Option Addr}{n cap n' cap':Nat}{xs ys:List Nat}(hx:Rd w A n cap xs) (hl:n≤137438953471) (hy:Rd w B n' cap' ys) (hl':n'≤137438953471):
  Calls Tryz.prog 103 #[.slice A n cap,.slice B n' cap'] w (RetW w (nv xs+nv ys)):=by
 go_enter Tryz.func103,Tryz.ntmps103
 go_wp2_with fail
 refine (ref1_Split hx (by omega)).mono ?_
 rintro e w1 ⟨A1,p,c1,rfl,hp,hr1,_,hx1⟩
 have hb1:p≤549755813888:=by have:=len_db16_nv hx.wf;rw [hp.out];rw [hx.len] at this;omega
 go_wp2_with fail
 refine (ref1_Split (hy.ext hx1) (by omega)).mono ?_
 rintro e w2 ⟨A2,q,c2,rfl,hq,hr2,_,hx2⟩
 have hb2:q≤549755813888:=by have:=len_db16_nv hy.wf;rw [hq.out];rw [hy.len] at this;omega
 have hr1':=hr1.ext hx2
 have hx12:=hx1.trans hx2
 clear hr1 hx1 hx2
 obtain⟨ds,hds⟩:∃ds,ds=db 65536 (nv xs):=⟨_,rfl⟩
 obtain⟨es,hes⟩:∃es,es=db 65536 (nv ys):=⟨_,rfl⟩
 have hvx:=Lib.hid (show nb 65536 ds=nv xs by rw [hds,nb_db b16])
 have hvy:=Lib.hid (show nb 65536 es=nv ys by rw [hes,nb_db b16])
 have hdl:=Lib.hid hr1'.len
 have hel:=Lib.hid hr2.len
 rw [←hds] at hr1' hdl
 rw [←hes] at hr2 hel
 clear hds hes hp hq hx hy
 go_upto_if 21 with (fail)
 go_cut [7] (fun u wc=>∃m:Nat,u= .int .i64 (m:Int)∧p≤m∧q≤m∧m≤549755813888∧w2=wc)
 case first=>
  by_cases hlt:p<q
  ·go_wp2_with fail
   go_meet
   case rel=>exact⟨q,rfl,by omega,by omega,hb2,rfl⟩
  ·go_wp2_with fail
   go_meet
   case rel=>exact⟨p,rfl,by omega,by omega,hb1,rfl⟩
 case rest=>
  obtain⟨m,rfl,hpm,hqm,hmb,rfl⟩:=hcut
  have hmk:=run_make1 (P:=Tryz.prog) Tryz.underlying114 infoInt rfl (by decide) ((m:Int)+1) (by omega) (by omega)
  have et:((m:Int)+1).toNat=m+1:=by omega
  rw [et] at hmk
  clear et
  go_wp2_with fail
  clear hmk
  obtain⟨g,hg⟩:∃g,w2.heap.size=g:=⟨_,rfl⟩
  rw [hg]
  obtain⟨wa,hwa⟩:∃wa,w2.alloc (.cells (zc (.int .i64 0) (m+1)) 3)=wa:=⟨_,rfl⟩
  rw [hwa]
  have hbk:Bk wa g 3 ((List.replicate (m+1) 0).map I6):=by
   rw [←hwa,←hg,←replicate_I6];exact Bk.new' _ _ _
  have hea:Ext w2 wa:=by rw [←hwa];exact (Ext.refl w2).alloc _
  have hgs:w.heap.size≤g:=by rw [←hg];exact hx12.size
  have hgc:w2.heap.size≤g:=by rw [hg];exact Nat.le_refl _
  clear hg hwa
  go_loopw [10,9] (fun u v wr=>∃(i c:Nat) (l:List Nat),i≤m∧c≤1∧u= .int .i64 (i:Int)∧v= .int .i64 (c:Int)∧Hid (l.length=m+1)∧Wfb 65536 l∧Bk wr g 3 (l.map I6)∧
   Hid (nb 65536 (l.take i)+65536^i*c=nb 65536 (ds.take i)+nb 65536 (es.take i))∧Ext w2 wr) (fun u v wr=>m-(intOf u).toNat)
  case atStart=>exact⟨0,0,_,Nat.zero_le _,Nat.zero_le _,rfl,rfl,List.length_replicate,Wfb_zeros (by omega) _,hbk,by simp [Hid,nb],hea⟩
  case round=>
   obtain⟨i,c,l,hi,hc,rfl,rfl,hll,hwl,hb,hv,hr⟩:=hrel
   clear hbk hea
   by_cases him:i<m
   ·obtain⟨o,ho,_,hco⟩:=hb.digit (by omega) hwl (i:=i) (by rw [hll.out];omega)
    have hfr:=hb.frozen i
    go_wp2_with fail
    refine (ref1_at (hr1'.ext hr) (by omega) (i:=(i:Int)) (by omega) (by omega)).mono ?_
    rintro e w' ⟨x,hx,hxb,rfl,rfl⟩
    go_wp2_with fail
    refine (ref1_at (hr2.ext hr) (by omega) (i:=(i:Int)) (by omega) (by omega)).mono ?_
    rintro e w' ⟨y,hy,hyb,rfl,rfl⟩
    rw [Int.toNat_natCast] at hx hy
    go_wp2_with fail
    go_roundw
    case rel=>
     have ec:((x:Int)+(y:Int)+(c:Int))%65536=(((x+y+c)%65536:Nat):Int):=by omega
     refine⟨i+1,(x+y+c)/65536,l.set i ((x+y+c)%65536),by omega,by omega,by go_num,val_int (by omega),by show _=_;rw [List.length_set];exact hll.out,Wfb_set hwl i (by omega),?_,
      addb_step (by rw [hll.out];omega) hv.out hx.out hy.out (Nat.mod_add_div _ _),hr.setCell hgc _⟩
     rw [←map_I6_set,ec];exact hb.set i _
    case measure=>simp [intOf];omega
   ·obtain rfl:i=m:=by omega
    obtain⟨o,ho,_,hco⟩:=hb.digit (by omega) hwl (i:=i) (by rw [hll.out];omega)
    have hfr:=hb.frozen i
    have hb2:=hb.set i (.int .i64 (c:Int))
    rw [map_I6_set] at hb2
    have hll2:Hid ((l.set i c).length=i+1):=by show _=_;rw [List.length_set];exact hll.out
    have hwl2:Wfb 65536 (l.set i c):=Wfb_set hwl i (by omega)
    have hr3:Ri 65536 (wr.setCell ⟨g,i,none⟩ (.int .i64 (c:Int))) (some ⟨g,0,none⟩) (i+1) (i+1) (l.set i c):=by
     have:=hb2.ri hwl2 (o:=0) (n:=i+1) (cap:=i+1) (Nat.le_refl _) (by rw [hll2.out];omega) (by rw [len_maxLen];omega)
     rwa [List.drop_zero,List.take_of_length_le (by rw [hll2.out];omega)] at this
    have hval:Hid (nb 65536 (l.set i c)=nv xs+nv ys):=by
     show _=_
     have e1:(l.set i c).getD i 0=c:=by
      have:=hll.out
      simp [List.getD_eq_getElem?_getD,this]
     have e2:(l.set i c).take i=l.take i:=by rw [List.take_set_of_le (Nat.le_refl i)]
     have e3:=nb_take_snoc 65536 (l.set i c) i (by rw [hll2.out];omega)
     rw [e1,e2,List.take_of_length_le (by rw [hll2.out];omega),hv.out,List.take_of_length_le (by rw [hdl.out];omega),List.take_of_length_le (by rw [hel.out];omega)] at e3
     rw [e3,hvx.out,hvy.out]
    go_wp2_with fail
    refine (ref1_Join hr3 (by omega)).mono ?_
    rintro e w3 ⟨A3,n3,c3,rfl,hn3,hr4,ho4,hx3⟩
    go_wp2_with fail
    go_ret
    rw [hval.out] at hn3 hr4 ho4
    exact⟨A3,n3,c3,rfl,hn3,hr4,ho4.mono (by have:=hx12.size;have:=hr.size;simp;omega),((hx12.trans hr).setCell hgs _).trans hx3⟩
theorem digits_step {l:List Nat}{n x q:Nat}(hl:n<l.length) (h:nb 65536 (l.take n)+65536^n*q=x):nb 65536 ((l.set n (q%65536)).take (n+1))+65536^(n+1)*(q/65536)=x:=by
 rw [nb_set_snoc 65536 hl,Nat.pow_succ,Nat.mul_assoc,Nat.add_assoc,←Nat.mul_add,Nat.mod_add_div]
 exact h
theorem ref2_digits {w:World}{A:Option Addr}{n cap:Nat}{xs:List Nat}(hx:Rd w A n cap xs) (hl:n≤274877906943):
  Calls Tryz.prog 146 #[.slice A n cap] w (RetI w (nv xs)):=by
 have hlx:=Lib.hid hx.len
 have hmk:=run_make1 (P:=Tryz.prog) Tryz.underlying114 infoInt rfl (by decide) (4*(n:Int)) (by omega) (by omega)
 have et:(4*(n:Int)).toNat=4*n:=by omega
 rw [et] at hmk
 clear et
 go_enter Tryz.func146,Tryz.ntmps146
 go_wp2_with fail
 clear hmk
 obtain⟨g,hg⟩:∃g,w.heap.size=g:=⟨_,rfl⟩
 rw [hg]
 obtain⟨wa,hwa⟩:∃wa,w.alloc (.cells (zc (.int .i64 0) (4*n)) 3)=wa:=⟨_,rfl⟩
 rw [hwa]
 have hbk:Bk wa g 3 ((List.replicate (4*n) 0).map I6):=by
  rw [←hwa,←hg,←replicate_I6];exact Bk.new' _ _ _
 have hea:Ext w wa:=by rw [←hwa];exact (Ext.refl w).alloc _
 have hgs:w.heap.size≤g:=by rw [hg];exact Nat.le_refl _
 clear hg hwa
 go_loopw [4] (fun u wr=>∃(i:Nat) (l:List Nat),i≤n∧u= .int .i64 (i:Int)∧Bk wr g 3 (l.map I6)∧Wfb 65536 l∧Hid (l.length=4*n)∧Hid (nb 65536 (l.take (4*i))=nv (xs.take i))∧Ext w wr) (fun u wr=>n-(intOf u).toNat)
 case atStart=>exact⟨0,_,Nat.zero_le _,rfl,hbk,Wfb_zeros (by omega) _,List.length_replicate,rfl,hea⟩
 case round=>
  obtain⟨i,l,hi,rfl,hb,hw,hll,hv,hr⟩:=hrel
  clear hbk hea
  by_cases him:i<n
  ·obtain⟨a,x,rfl,hxk,hxb,hcx⟩:=(hx.ext hr).get (i:=i) (by omega)
   go_wp2_with fail
   obtain⟨wo,rfl⟩:∃wo:World,wo=wr:=⟨_,rfl⟩
   go_loopw [6,5] (fun u y wr=>∃(k:Nat) (l:List Nat) (q:Nat),k≤4∧u= .int .i64 (k:Int)∧y= .int .u64 (q:Int)∧q≤18446744073709551615∧Bk wr g 3 (l.map I6)∧Wfb 65536 l∧
    Hid (l.length=4*n)∧Hid (nb 65536 (l.take (4*i+k))+65536^(4*i+k)*q=nv (xs.take (i+1)))∧Hid (q*65536^k<WB)∧Ext w wr) (fun u y wr=>4-(intOf u).toNat)
   case atStart=>
    refine⟨0,l,x,Nat.zero_le _,rfl,rfl,hxb,hb,hw,hll,?_,?_,hr⟩
    ·show _=_
     rw [show 4*i+0=4*i from rfl,hv.out,nv_take_snoc xs i (by rw [hlx.out];omega),hxk.out,WB_16,←Nat.pow_mul]
    ·show _<_
     rw [WB_def];omega
   case round=>
    obtain⟨k,l2,q,hk,rfl,rfl,hqb,hb2,hw2,hl2,hev,hq,hr2⟩:=hrel
    clear hb hw hll hv
    by_cases hk4:k<4
    ·obtain⟨o,ho,_,hco⟩:=hb2.digit (by omega) hw2 (i:=4*i+k) (by rw [hl2.out];omega)
     have hfr:=hb2.frozen (4*i+k)
     go_wp2_with fail
     go_roundw
     case rel=>
      refine⟨k+1,l2.set (4*i+k) (q%65536),q/65536,by omega,by go_num,by go_num,by omega,?_,Wfb_set hw2 _ (Nat.mod_lt q (by omega)),by show _=_;rw [List.length_set];exact hl2.out,digits_step (n:=4*i+k) (by rw [hl2.out];omega) hev.out,?_,hr2.setCell hgs _⟩
      ·have e:((q:Int)%65536)=((q%65536:Nat):Int):=by omega
       rw [←map_I6_set,e];exact hb2.set _ _
      ·show _<_
       have h2:q/65536*65536≤q:=Nat.div_mul_le_self q 65536
       calc q/65536*65536^(k+1)=(q/65536*65536)*65536^k:=by rw [Nat.pow_succ,Nat.mul_comm (65536^k),Nat.mul_assoc]
        _≤q*65536^k:=Nat.mul_le_mul_right _ h2
        _<WB:=hq.out
     case measure=>simp [intOf];omega
    ·obtain rfl:k=4:=by omega
     have hq0:q=0:=by
      have h:=hq.out
      rw [WB_def] at h
      omega
     go_wp2_with fail
     go_roundw
     case rel=>
      refine⟨i+1,l2,by omega,by go_num,hb2,hw2,hl2.out,?_,hr2⟩
      show _=_
      have h:=hev.out
      rw [hq0,Nat.mul_zero,Nat.add_zero] at h
      exact h
     case measure=>simp [intOf];omega
  ·obtain rfl:i=n:=by omega
   have hval:Hid (nb 65536 l=nv xs):=by
    show _=_
    have h:=hv.out
    rwa [List.take_of_length_le (by rw [hll.out];omega),List.take_of_length_le (by rw [hlx.out];omega)] at h
   clear hv
   go_wp2_with fail
   go_loop [7] (fun u=>∃k:Nat,k≤4*i∧u= .int .i64 (k:Int)∧Hid (nb 65536 (l.take k)=nb 65536 l)) (fun u=>(intOf u).toNat)
   case atStart=>exact⟨4*i,Nat.le_refl _,by go_num,(show _=_ by rw [List.take_of_length_le (by rw [hll.out];omega)])⟩
   case round=>
    obtain⟨k,hk,rfl,hv⟩:=hrel
    have fin:k=0∨l.getD (k-1) 0≠0→RetI w (nv xs) (.returned (.slice (some ⟨g,0,none⟩) k (4*i))) wr:=by
     intro h
     have e:=db_take b16 (k:=k) hw (by rw [hll.out];exact hk) hv.out h
     rw [hval.out] at e
     have ho:Own wr w.heap.size 3 1 (some ⟨g,0,none⟩) k (4*i) ((db 65536 (nv xs)).map I6):=
      Own.mk_ hgs hb hk (by rw [len_maxLen];omega) (by rw [List.length_map,hll.out,Nat.mul_one]) (by rw [Nat.mul_one,←List.map_take,e])
     refine⟨_,_,_,rfl,?_,⟨ho.rv,Wfb_db b16 _⟩,ho,hr⟩
     show _=_
     rw [e,List.length_take,hll.out];omega
    have FIN:=Lib.hid fin
    clear fin
    by_cases h0:0<k
    ·obtain⟨x,hxk,hxb,hc⟩:=hb.digit (by omega) hw (i:=k-1) (by rw [hll.out];omega)
     by_cases hz:x=0
     ·subst hz
      go_wp2_with fail
      go_round
      case rel=>
       refine⟨k-1,by omega,val_int (by omega),?_⟩
       show _=_
       rw [←hv.out,←nb_take_zero 65536 l (k-1) (by rw [hll.out];omega) hxk.out,Nat.sub_add_cancel h0]
      case measure=>simp [intOf];omega
     ·have hzb:((x:Int)==0)=false:=by simp;omega
      go_wp2_with fail
      go_ret
      exact FIN.out (Or.inr (by rw [hxk.out];exact hz))
    ·go_wp2_with fail
     go_ret
     exact FIN.out (Or.inl (by omega))
theorem ref2_words {w:World}{A:Option Addr}{n cap:Nat}{ds:List Nat}(hx:Ri 65536 w A n cap ds) (hl:n≤1099511627775):
  Calls Tryz.prog 147 #[.slice A n cap] w (RetW w (nb 65536 ds)):=by
 have hlx:=Lib.hid hx.len
 obtain⟨m,hm⟩:∃m,m=(n+3)/4:=⟨_,rfl⟩
 have hm1:n≤4*m:=by omega
 have hm2:4*m<n+4:=by omega
 have hmk:=run_make1 (P:=Tryz.prog) Tryz.underlying24 info64 rfl (by decide) (((n:Int)+3)/4) (by omega) (by omega)
 have et:(((n:Int)+3)/4).toNat=m:=by omega
 rw [et] at hmk
 clear et hm
 go_enter Tryz.func147,Tryz.ntmps147
 go_wp2_with fail
 clear hmk
 obtain⟨g,hg⟩:∃g,w.heap.size=g:=⟨_,rfl⟩
 rw [hg]
 obtain⟨wa,hwa⟩:∃wa,w.alloc (.cells (zc (.int .u64 0) m) 67)=wa:=⟨_,rfl⟩
 rw [hwa]
 have hbk:Bk wa g 67 ((List.replicate m 0).map W64):=by
  rw [←hwa,←hg,←replicate_W64];exact Bk.new' _ _ _
 have hea:Ext w wa:=by rw [←hwa];exact (Ext.refl w).alloc _
 have hgs:w.heap.size≤g:=by rw [hg];exact Nat.le_refl _
 clear hg hwa
 go_loopw [4] (fun u wr=>∃(i:Nat) (l:List Nat),i≤n∧u= .int .i64 ((i:Int)-1)∧Bk wr g 67 (l.map W64)∧Hid (l.length=m)∧Hid (∀t,t<m→l.getD t 0=wval ds i t)∧Ext w wr) (fun u wr=>(intOf u+1).toNat)
 case atStart=>
  refine⟨n,_,Nat.le_refl _,rfl,hbk,List.length_replicate,?_,hea⟩
  intro t ht
  have e1:(List.replicate m 0).getD t 0=0:=by simp [List.getD_eq_getElem?_getD,ht]
  unfold wval
  rw [e1,List.drop_eq_nil_of_le (by rw [hlx.out];omega)];simp [nb]
 case round=>
  obtain⟨i,l,hi,rfl,hb,hll,hv,hr⟩:=hrel
  clear hbk hea
  have hwl:Wf l:=by
   intro x hx'
   obtain⟨t,ht,rfl⟩:=List.getElem_of_mem hx'
   have:=hv.out t (by rw [←hll.out];exact ht)
   rw [List.getD_eq_getElem?_getD,List.getElem?_eq_getElem ht,Option.getD_some] at this
   rw [this];exact wval_lt hx.wf _ _
  by_cases h0:0<i
  ·obtain⟨j,rfl⟩:∃j,i=j+1:=⟨i-1,by omega⟩
   obtain⟨a,d,rfl,hdk,hdb,hcd⟩:=(hx.ext hr).get (by omega) (i:=j) (by omega)
   obtain⟨x,hxk,hxb,hcx⟩:=hb.word hwl (i:=j/4) (by rw [hll.out];omega)
   have hfr:=hb.frozen (j/4)
   have hval:Hid (d+65536*x=wval ds j (j/4)):=by
    show _=_
    rw [wval_step,hdk.out,←hv.out (j/4) (by omega),hxk.out]
   have hbd:d+65536*x≤18446744073709551615:=by
    rw [hval.out]
    have:=wval_lt hx.wf j (j/4)
    rw [WB_def] at this;omega
   have hj:((j+1:Nat):Int)-1=(j:Int):=by omega
   rw [hj]
   clear hj h0
   have c1:(j:Int)/4<(m:Int):=by omega
   have c2:(0:Int)≤(j:Int)/4:=by omega
   go_wp2_with fail
   go_region
   go_wp2_with fail
   go_roundw
   case rel=>
    have ev:(x:Int)*65536+(d:Int)=((d+65536*x:Nat):Int):=by omega
    refine⟨j,l.set (j/4) (d+65536*x),by omega,val_int (by omega),?_,by show _=_;rw [List.length_set];exact hll.out,?_,(hr.setCell hgs _).drew⟩
    ·rw [←map_W64_set,ev];exact (hb.set _ _).drew
    ·intro t ht
     by_cases htj:t=j/4
     ·subst htj
      rw [getD_set_eq (by rw [hll.out];omega),hval.out]
     ·rw [getD_set_ne (fun e=>htj e.symm),hv.out t ht,wval_other htj]
   case measure=>simp [intOf]
  ·obtain rfl:i=0:=by omega
   have hval:Hid (nv l=nb 65536 ds):=wval_end (fun t ht=>hv.out t (by rw [←hll.out];exact ht)) (by rw [hll.out,hlx.out];exact hm1) (by rw [hll.out,hlx.out];exact hm2)
   clear hv
   go_wp2_with fail
   go_loop [5] (fun u=>∃k:Nat,k≤m∧u= .int .i64 (k:Int)∧Hid (nv (l.take k)=nv l)) (fun u=>(intOf u).toNat)
   case atStart=>exact⟨m,Nat.le_refl _,rfl,(show _=_ by rw [List.take_of_length_le (by rw [hll.out];omega)])⟩
   case round=>
    obtain⟨k,hk,rfl,hv⟩:=hrel
    have fin:k=0∨l.getD (k-1) 0≠0→RetW w (nb 65536 ds) (.returned (.slice (some ⟨g,0,none⟩) k m)) wr:=by
     intro h
     have e:=wd_take (k:=k) hwl (by rw [hll.out];exact hk) hv.out h
     rw [←hval.out]
     exact RetW_mk (ys:=l) hgs hb hll.out hk (by rw [len_maxLen];omega) e.symm hr
    have FIN:=Lib.hid fin
    clear fin
    by_cases h0:0<k
    ·obtain⟨x,hxk,hxb,hc⟩:=hb.word hwl (i:=k-1) (by rw [hll.out];omega)
     by_cases hz:x=0
     ·subst hz
      go_wp2_with fail
      go_round
      case rel=>
       refine⟨k-1,by omega,val_int (by omega),?_⟩
       show _=_
       rw [←hv.out,←nv_take_zero l (k-1) (by rw [hll.out];omega) hxk.out,Nat.sub_add_cancel h0]
      case measure=>simp [intOf];omega
     ·have hzb:((x:Int)==0)=false:=by simp;omega
      go_wp2_with fail
      go_ret
      exact FIN.out (Or.inr (by rw [hxk.out];exact hz))
    ·go_wp2_with fail
     go_ret
     exact FIN.out (Or.inl (by omega))
theorem mulb_step {b:Nat}{l ys:List Nat}{m k c o x y P j i d s:Nat}(hk:k=i+j) (hkm:k<m) (hml:m≤l.length) (h:nb b (l.take m)+b^k*c=P+x*(b^i*nb b (ys.take j)))
  (ho:l.getD k 0=o) (hj:j<ys.length) (hy:ys.getD j 0=y) (hs:s+b*d=o+x*y+c):
  nb b ((l.set k s).take m)+b^(k+1)*d=P+x*(b^i*nb b (ys.take (j+1))):=by
 have e1:=nb_set b (l:=l.take m) (k:=k) (by rw [List.length_take];omega) s
 rw [getD_take hkm,ho] at e1
 rw [List.take_set,nb_take_snoc b ys j hj,hy,Nat.mul_add (b^i),Nat.mul_add x,←Nat.add_assoc,←h,←Nat.mul_assoc (b^i),←Nat.pow_add,←hk,Nat.pow_succ,Nat.mul_assoc (b^k)]
 have e2:b^k*(s+b*d)=b^k*(o+x*y+c):=by rw [hs]
 simp only [Nat.mul_add] at e2
 have e3:b^k*(x*y)=x*(b^k*y):=by rw [←Nat.mul_assoc,Nat.mul_comm (b^k) x,Nat.mul_assoc]
 rw [e3] at e2
 omega
theorem mul_bound {x y B:Nat}(hx:x≤B) (hy:y≤B):((x:Int)*(y:Int))≤((B*B:Nat):Int)∧0≤((x:Int)*(y:Int))∧((x:Int)*(y:Int))=((x*y:Nat):Int):=by
 have h:x*y≤B*B:=Nat.mul_le_mul hx hy
 rw [←Int.natCast_mul]
 omega
theorem ref2_Mul {w:World}{A B:Option Addr}{n cap n' cap':Nat}{xs ys:List Nat}(hx:Rd w A n cap xs) (hl:n≤68719476735) (hy:Rd w B n' cap' ys) (hl':n'≤68719476735):
  Calls Tryz.prog 105 #[.slice A n cap,.slice B n' cap'] w (RetW w (nv xs*nv ys)):=by
 go_enter Tryz.func105,Tryz.ntmps105
 go_wp2_with fail
 refine (ref2_digits hx (by omega)).mono ?_
 rintro e w1 ⟨A1,p,c1,rfl,hp,hr1,_,hx1⟩
 have hbp:p≤274877906944:=by have:=len_db16_nv hx.wf;rw [hp.out];rw [hx.len] at this;omega
 go_wp2_with fail
 refine (ref2_digits (hy.ext hx1) (by omega)).mono ?_
 rintro e w2 ⟨A2,q,c2,rfl,hq,hr2,_,hx2⟩
 have hbq:q≤274877906944:=by have:=len_db16_nv hy.wf;rw [hq.out];rw [hy.len] at this;omega
 have hr1':=hr1.ext hx2
 have hx12:=hx1.trans hx2
 clear hr1 hx1 hx2
 obtain⟨ds,hds⟩:∃ds,ds=db 65536 (nv xs):=⟨_,rfl⟩
 obtain⟨es,hes⟩:∃es,es=db 65536 (nv ys):=⟨_,rfl⟩
 have hvx:=Lib.hid (show nb 65536 ds=nv xs by rw [hds,nb_db b16])
 have hvy:=Lib.hid (show nb 65536 es=nv ys by rw [hes,nb_db b16])
 have hdl:=Lib.hid hr1'.len
 have hel:=Lib.hid hr2.len
 rw [←hds] at hr1' hdl
 rw [←hes] at hr2 hel
 clear hds hes hp hq hx hy
 have hmk:=run_make1 (P:=Tryz.prog) Tryz.underlying114 infoInt rfl (by decide) ((p:Int)+(q:Int)) (by omega) (by omega)
 have et:((p:Int)+(q:Int)).toNat=p+q:=by omega
 rw [et] at hmk
 clear et
 go_wp2_with fail
 clear hmk
 obtain⟨g,hg⟩:∃g,w2.heap.size=g:=⟨_,rfl⟩
 rw [hg]
 obtain⟨wa,hwa⟩:∃wa,w2.alloc (.cells (zc (.int .i64 0) (p+q)) 3)=wa:=⟨_,rfl⟩
 rw [hwa]
 have hbk:Bk wa g 3 ((List.replicate (p+q) 0).map I6):=by
  rw [←hwa,←hg,←replicate_I6];exact Bk.new' _ _ _
 have hea:Ext w2 wa:=by rw [←hwa];exact (Ext.refl w2).alloc _
 have hgs:w.heap.size≤g:=by rw [←hg];exact hx12.size
 have hgc:w2.heap.size≤g:=by rw [hg];exact Nat.le_refl _
 clear hg hwa
 go_loopw [8] (fun u wr=>∃(i:Nat) (l:List Nat),i≤p∧u= .int .i64 (i:Int)∧Hid (l.length=p+q)∧Wfb 65536 l∧Bk wr g 3 (l.map I6)∧
  Hid (nb 65536 (l.take (i+q))=nb 65536 (ds.take i)*nb 65536 es)∧Ext w2 wr) (fun u wr=>p-(intOf u).toNat)
 case atStart=>
  refine⟨0,_,Nat.zero_le _,rfl,List.length_replicate,Wfb_zeros (by omega) _,hbk,?_,hea⟩
  show _=_
  rw [List.take_replicate,nb_zeros];simp [nb]
 case round=>
  obtain⟨i,l,hi,rfl,hll,hwl,hb,hv,hr⟩:=hrel
  clear hbk hea
  by_cases hip:i<p
  ·obtain⟨a,x,rfl,hxk,hxb,hcx⟩:=(hr1'.ext hr).get (by omega) (i:=i) (by omega)
   go_wp2_with fail
   obtain⟨wo,rfl⟩:∃wo:World,wo=wr:=⟨_,rfl⟩
   go_loopw [10,9] (fun u v wr=>∃(j c:Nat) (l:List Nat),j≤q∧c≤65535∧u= .int .i64 (j:Int)∧v= .int .i64 (c:Int)∧Hid (l.length=p+q)∧Wfb 65536 l∧Bk wr g 3 (l.map I6)∧
    Hid (nb 65536 (l.take (i+q))+65536^(i+j)*c=nb 65536 (ds.take i)*nb 65536 es+x*(65536^i*nb 65536 (es.take j)))∧Ext w2 wr) (fun u v wr=>q-(intOf u).toNat)
   case atStart=>exact⟨0,0,l,Nat.zero_le _,Nat.zero_le _,rfl,rfl,hll.out,hwl,hb,(show _=_ by rw [hv.out];simp [nb]),hr⟩
   case round=>
    obtain⟨j,c,l2,hj,hc,rfl,rfl,hl2,hw2,hb2,hv2,hr2'⟩:=hrel
    clear hll hwl hb hv
    by_cases hjq:j<q
    ·have hcx2:=(hr1'.ext hr2').get (by omega) (i:=i) (by omega)
     obtain⟨a',x',ha',hxk',_,hcx'⟩:=hcx2
     cases ha'
     obtain rfl:x'=x:=by rw [←hxk'.out,hxk.out]
     obtain⟨b,y,rfl,hyk,hyb,hcy⟩:=(hr2.ext hr2').get (by omega) (i:=j) (by omega)
     obtain⟨o,hok,hob,hco⟩:=hb2.digit (by omega) hw2 (i:=i+j) (by rw [hl2.out];omega)
     have hfr:=hb2.frozen (i+j)
     obtain⟨m1,m2,m3⟩:=mul_bound (B:=65535) (x:=x') (y:=y) (by omega) (by omega)
     have M3:=Lib.hid m3
     clear m3 hcx hxk'
     have m1':(x':Int)*(y:Int)≤4294836225:=by simpa using m1
     clear m1
     go_wp2_with fail
     go_quiet (fail)
     go_wp2_with fail
     go_roundw
     case rel=>
      have hs:o+x'*y+c≤4294967295:=by
       have h:=M3.out
       have:x'*y≤4294836225:=by omega
       omega
      have ev:((o:Int)+(x':Int)*(y:Int)+(c:Int))=((o+x'*y+c:Nat):Int):=by rw [M3.out];omega
      refine⟨j+1,(o+x'*y+c)/65536,l2.set (i+j) ((o+x'*y+c)%65536),by omega,by omega,by go_num,by rw [ev];exact val_int (by omega),by show _=_;rw [List.length_set];exact hl2.out,Wfb_set hw2 _ (Nat.mod_lt _ (by omega)),?_,
       mulb_step (k:=i+j) (m:=i+q) rfl (by omega) (by rw [hl2.out];omega) hv2.out hok.out (by rw [hel.out];omega) hyk.out (Nat.mod_add_div _ _),(by first | exact (hr2'.drewN _).setCell hgc _ | exact (hr2'.setCell hgc _).drewN _)⟩
      have ev2:((o:Int)+(x':Int)*(y:Int)+(c:Int))%65536=(((o+x'*y+c)%65536:Nat):Int):=by rw [ev];omega
      rw [←map_I6_set,←ev2];exact (hb2.drewN _).set _ _
     case measure=>simp [intOf];omega
    ·obtain rfl:j=q:=by omega
     obtain⟨o,hok,hob,hco⟩:=hb2.digit (by omega) hw2 (i:=i+j) (by rw [hl2.out];omega)
     have hfr:=hb2.frozen (i+j)
     go_wp2_with fail
     go_roundw
     case rel=>
      refine⟨i+1,l2.set (i+j) c,by omega,by go_num,by show _=_;rw [List.length_set];exact hl2.out,Wfb_set hw2 _ (by omega),by rw [←map_I6_set];exact hb2.set _ _,?_,hr2'.setCell hgc _⟩
      show _=_
      rw [show i+1+j=i+j+1 from by omega,nb_set_snoc 65536 (by rw [hl2.out];omega),hv2.out,List.take_of_length_le (l:=es) (i:=j) (by rw [hel.out];omega),nb_take_snoc 65536 ds i (by rw [hdl.out];omega),hxk.out,Nat.add_mul,←Nat.mul_assoc,Nat.mul_comm x]
     case measure=>simp [intOf];omega
  ·obtain rfl:i=p:=by omega
   have hr3:Ri 65536 wr (some ⟨g,0,none⟩) (i+q) (i+q) l:=by
    have:=hb.ri hwl (o:=0) (n:=i+q) (cap:=i+q) (Nat.le_refl _) (by rw [hll.out];omega) (by rw [len_maxLen];omega)
    rwa [List.drop_zero,List.take_of_length_le (by rw [hll.out];omega)] at this
   have hval:Hid (nb 65536 l=nv xs*nv ys):=by
    show _=_
    have h:=hv.out
    rwa [List.take_of_length_le (by rw [hll.out];omega),List.take_of_length_le (by rw [hdl.out];omega),hvx.out,hvy.out] at h
   go_wp2_with fail
   refine (ref2_words hr3 (by omega)).mono ?_
   rintro e w3 ⟨A3,n3,c3,rfl,hn3,hr4,ho4,hx3⟩
   go_wp2_with fail
   go_ret
   rw [hval.out] at hn3 hr4 ho4
   exact⟨A3,n3,c3,rfl,hn3,hr4,ho4.mono (hx12.trans hr).size,(hx12.trans hr).trans hx3⟩
theorem sz_int (w:World):(sizeOf 3).run Tryz.prog w= .ok 1 w:=by kernel_rfl
theorem ag_int (w:World):(isAgg 3).run Tryz.prog w= .ok false w:=by kernel_rfl
theorem un_int:Tryz.prog.underlying 114=some (.slice 3):=Tryz.underlying114
theorem Ri.at {b:Nat}(hb:0<b){w:World}{A:Option Addr}{n c:Nat}{xs:List Nat}(h:Ri b w A n c xs){i:Nat}(hi:i<n):
  ∃p,A.map (·.add (i*1))=some p∧w.cell? p=some (.int .i64 ((xs.getD i 0:Nat):Int))∧xs.getD i 0<b:=by
 obtain⟨a,x,rfl,hk,hlt,hc⟩:=h.get hb hi
 refine⟨a.add i,by rw [Nat.mul_one];rfl,?_,by rw [hk.out];exact hlt⟩
 rw [hk.out];exact hc
theorem Ri.updL {b:Nat}{w w':World}{A:Option Addr}{n c:Nat}{xs:List Nat}{g:Nat}(h:Ri b w A n c xs) (e:Upd g w w') (hne:0<c→∀a,A=some a→a.block≠g):Ri b w' A n c xs:=
 ⟨⟨h.rv.len,h.rv.le,h.rv.max,fun i hi=>by
  obtain⟨a,ha,hc⟩:=h.rv.get i hi
  exact⟨a,ha,e.cell hc (by rw [block_of_add];exact hne (by have:=h.rv.le;omega) a ha)⟩,fun a ha hc=>Nat.lt_of_lt_of_le (h.rv.blk a ha hc) e.size⟩,h.wf⟩
def SD (m:Nat) (v:Value) (w:World):Prop:=∃A k c,v= .slice A k c∧Ri 65536 w A k c (db 65536 m)
theorem gcmp {x y:Nat}{w:World}(e:Ending) (w':World) (h:CmpP x y w e w'):Gv w (Is (.int .i64 (cmp3 x y))) e w':=by
 obtain⟨c,h1,_,_,rfl,h2⟩:=h
 exact⟨_,rfl,(show Value.int .i64 c=_ by rw [h1.out]),h2⟩
theorem len_db16w {w:World}{A:Option Addr}{n c:Nat}{xs:List Nat}(h:Rd w A n c xs):(db 65536 (nv xs)).length≤4*n:=by
 have:=len_db16_nv h.wf
 rwa [h.len] at this
theorem g_ref1_Split {w:World}{A:Option Addr}{n c:Nat}{xs:List Nat}(hx:Rd w A n c xs) (hl:n≤274877906943):Calls Tryz.prog 142 #[.slice A n c] w (Gv w (SD (nv xs))):=
 (ref1_Split hx hl).mono fun e w' h=>by
  obtain⟨A,n,c,rfl,_,h2,_,h4⟩:=h
  exact⟨_,rfl,⟨A,n,c,rfl,h2⟩,h4⟩
theorem g_ref1_Join {w:World}{b:Nat}(hb:b≤w.heap.size){A:Option Addr}{n c:Nat}{ds:List Nat}(hx:Ri 65536 w A n c ds) (hl:n≤1099511627775):Calls Tryz.prog 145 #[.slice A n c] w (Gv w (WR b (nb 65536 ds))):=(ref1_Join hx hl).mono (gw hb)
theorem g_ref1_order {w:World}{A B:Option Addr}{n c m d x y:Nat}(hx:Ri 65536 w A n c (db 65536 x)) (hl:n≤1099511627776) (hy:Ri 65536 w B m d (db 65536 y)) (hl':m≤1099511627776):
  Calls Tryz.prog 143 #[.slice A n c,.slice B m d] w (Gv w (Is (.int .i64 (cmp3 x y)))):=(ref1_order hx hl hy hl').mono gcmp
theorem g_ref1_at {w:World}{A:Option Addr}{n c i:Nat}{ds:List Nat}(hx:Ri 65536 w A n c ds) (hl:n≤1099511627776) (hi:i≤4398046511104):Calls Tryz.prog 144 #[.slice A n c,.int .i64 (i:Int)] w (Gv w (Is (.int .i64 ((ds.getD i 0:Nat):Int)))):=
 (ref1_at hx hl (i:=(i:Int)) (by omega) (by omega)).mono fun e w' h=>by
  obtain⟨x,h1,_,rfl,rfl⟩:=h
  have h2:=h1.out
  rw [Int.toNat_natCast] at h2
  exact⟨_,rfl,(show Value.int .i64 (x:Int)=_ by rw [h2]),Ext.refl _⟩
theorem subd_step {ds es l:List Nat}{i d t t':Nat}(hl:i<l.length) (hd:i<ds.length) (h:nb 65536 (l.take i)+nb 65536 (es.take i)=nb 65536 (ds.take i)+65536^i*t) (hs:d+es.getD i 0+t=ds.getD i 0+65536*t'):
  nb 65536 ((l.set i d).take (i+1))+nb 65536 (es.take (i+1))=nb 65536 (ds.take (i+1))+65536^(i+1)*t':=by
 have he:nb 65536 (es.take (i+1))=nb 65536 (es.take i)+65536^i*es.getD i 0:=by
  by_cases h:i<es.length
  ·exact nb_take_snoc _ _ _ h
  ·rw [List.take_of_length_le (by omega),List.take_of_length_le (by omega),List.getD_eq_getElem?_getD,List.getElem?_eq_none (by omega)]
   rfl
 rw [nb_set_snoc 65536 hl,he,nb_take_snoc 65536 ds i hd,Nat.pow_succ,Nat.mul_assoc]
 have e:65536^i*(d+es.getD i 0+t)=65536^i*(ds.getD i 0+65536*t'):=by rw [hs]
 simp only [Nat.mul_add] at e
 omega
theorem sub_done {x y n t:Nat}{l ds es:List Nat}(hds:ds=db 65536 x) (hes:es=db 65536 y) (hxy:y≤x) (hn:ds.length=n) (hl:l.length=n) (hw:Wfb 65536 l) (h:nb 65536 (l.take n)+nb 65536 (es.take n)=nb 65536 (ds.take n)+65536^n*t):nb 65536 l=x-y:=by
 have h1:es.length≤n:=by rw [←hn,hds,hes];exact len_db_mono b16 hxy
 rw [List.take_of_length_le (by omega),List.take_of_length_le h1,List.take_of_length_le (by omega),hds,hes,nb_db b16,nb_db b16] at h
 have h2:=nb_lt hw
 rw [hl] at h2
 have h3:t=0:=by
  refine Nat.eq_zero_of_not_pos fun hp=>?_
  have h3:65536^n*1≤65536^n*t:=Nat.mul_le_mul_left _ hp
  omega
 rw [h3] at h
 omega
theorem cmp3_lt_f {x y:Nat}(h:y≤x):cmpB .lss (cmp3 x y) 0=some false:=by
 have e:¬cmp3 x y<0:=fun e=>by have:=cmp3_neg.1 e;omega
 exact lt_f (by omega)
theorem cmp3_le {x y:Nat}(h:y≤x):y≤x:=h
theorem Bk.ri0 {w:World}{g N:Nat}{t:TypeId}{l:List Nat}(h:Bk w g t (l.map I6)) (hw:Wfb 65536 l) (hl:l.length=N) (hN:N≤9223372036854775807):Ri 65536 w (some ⟨g,0,none⟩) N N l:=by
 have:=h.ri hw (o:=0) (n:=N) (cap:=N) (Nat.le_refl _) (by omega) (by rw [len_maxLen];exact hN)
 rwa [List.drop_zero,List.take_of_length_le (Nat.le_of_eq hl)] at this
set_option maxHeartbeats 4000000 in
theorem ref1_Sub {w:World}{A D:Option Addr}{n cap m cd:Nat}{xs ys:List Nat}(hx:Rd w A n cap xs) (hln:n≤137438953472) (hy:Rd w D m cd ys) (hlm:m≤137438953472) (hle:nv ys≤nv xs):
    Calls Tryz.prog 104 #[.slice A n cap,.slice D m cd] w (Gv w (T2 (WR w.heap.size (nv xs-nv ys)) (Is (.int .i64 0)))):=by
 refine sx_enter Tryz.func104 rfl (n:=49) rfl (bq rfl) (args:= [.slice A n cap,.slice D m cd]) (cw_keep [(0,.slice A n cap),(1,.slice D m cd)] ⟨rfl,rfl,trivial⟩ (sr (mv 2 rfl (ne_ (sr (mv 1 rfl (cl (vs:= [.slice A n cap]) (Ext.refl w) (g_ref1_Split hx (by omega)) rfl (by kernel_rfl) fun xr3 v1 r3 e2 hw1=>?_)))))))
 obtain⟨A4,n4,c4,rfl,rd4⟩:=r3
 refine mv 1 rfl (ne_ (sr (mv 1 rfl (cl (vs:= [.slice D m cd]) hw1 (g_ref1_Split (hy.ext e2) (by omega)) rfl (by kernel_rfl) fun xr7 v5 r7 e6 hw2=>?_))))
 obtain⟨A8,n8,c8,rfl,rd8⟩:=r7
 refine mv 1 rfl (ne_ (cw_seq (cw_seq ?_)))
 have hll6:=rd4.len
 have hlb6:=len_db16w hx
 have hll7:=rd8.len
 have hlb7:=len_db16w hy
 refine cw_region (mv 2 rfl (cl (vs:= [.slice A4 n4 c4,.slice A8 n8 c8]) hw2 (g_ref1_order (rd4.ext e6) (by omega) rd8 (by omega)) rfl (by kernel_rfl) fun xr11 v9 r11 e10 hw3=>?_))
 obtain rfl:=r11
 refine wl_cmp rfl rfl rfl false (cmp3_lt_f hle) (by decide) (ne_ (cw_false rfl (cw_skip (eo_then (cw_seq ?_)))))
 obtain⟨ds,hds⟩:∃ds,ds=(db 65536 (nv xs)):=⟨_,rfl⟩
 rw [←hds] at rd4 hll6 hlb6
 have hwds:=rd4.wf
 obtain⟨es,hes⟩:∃es,es=(db 65536 (nv ys)):=⟨_,rfl⟩
 rw [←hes] at rd8 hll7 hlb7
 have hwes:=rd8.wf
 refine cw_region (mv 1 rfl (pu (v:= .int .i64 ((n4:Nat):Int)) rfl (by kernel_rfl) (wl_make rfl (k:=n4) rfl rfl rfl un_int infoInt rfl (by decide) (by omega) (by decide) fun g12 v13 hg14 hb15 e16=>?_)))
 rw [replicate_I6] at hb15
 have ge17:w.heap.size≤g12:=by rw [←hg14];exact hw3.size
 have ne19:0<cap→∀a,A=some a→a.block≠g12:=fun hc a ha=>by have:=((hx.ext (e2.trans (e6.trans e10)))).rv.blk a ha hc;omega
 have ne20:0<cd→∀a,D=some a→a.block≠g12:=fun hc a ha=>by have:=((hy.ext (e2.trans (e6.trans e10)))).rv.blk a ha hc;omega
 have ne21:0<c4→∀a,A4=some a→a.block≠g12:=fun hc a ha=>by have:=((rd4.ext (e6.trans e10))).rv.blk a ha hc;omega
 have ne22:0<c8→∀a,A8=some a→a.block≠g12:=fun hc a ha=>by have:=((rd8.ext e10)).rv.blk a ha hc;omega
 clear hg14
 have hw4:=hw3.trans e16
 refine mv 1 rfl (ne_ (sr (mv 1 rfl (ne_ (cw_seq (sr (mv 1 rfl (ne_ (cw_block ?_)))))))))
 refine cw_loop (T:=World×Nat×Nat×List Nat)
  (fun⟨wr,i,t,l⟩=> [(6,.slice A4 n4 c4),(7,.slice A8 n8 c8),(8,.slice (some ⟨g12,0,none⟩) n4 n4),(9,.int .i64 ((t:Nat):Int)),(10,.int .i64 ((i:Nat):Int))])
  (fun⟨wr,i,t,l⟩=>wr)
  (fun⟨wr,i,t,l⟩=>(Ext w wr)∧(i≤n4)∧(t≤1)∧(Bk wr g12 3 (l.map I6))∧(l.length=n4)∧(Wfb 65536 l)∧(nb 65536 (l.take i)+nb 65536 (es.take i)=nb 65536 (ds.take i)+65536^i*t)∧(Ri 65536 wr A4 n4 c4 ds)∧(Ri 65536 wr A8 n8 c8 es))
  (fun⟨wr,i,t,l⟩=>n4-i)
  (⟨v13,0,0,_⟩:World×Nat×Nat×List Nat) ⟨hw4,Nat.zero_le _,Nat.zero_le _,hb15,(List.length_replicate (n:=n4) (a:=0)),Wfb_zeros (by decide) _,by simp [nb],(rd4.ext (e6.trans (e10.trans e16))),(rd8.ext (e10.trans e16))⟩ rfl ⟨rfl,rfl,rfl,rfl,rfl,trivial⟩ ?_
 rintro⟨wr,i,t,l⟩ ⟨hw1,hi,ht,hb,hl,hwf,hv,rl6,rl7⟩
 refine cw_re [(6,.slice A4 n4 c4),(7,.slice A8 n8 c8),(8,.slice (some ⟨g12,0,none⟩) n4 n4),(9,.int .i64 ((t:Nat):Int)),(10,.int .i64 ((i:Nat):Int))] wr rfl ⟨rfl,rfl,rfl,rfl,rfl,trivial⟩ (cw_seq (cw_seq ?_))
 by_cases him:i<n4
 · 
  refine cw_region (mv 2 rfl (pu (v:= .int .i64 ((n4:Nat):Int)) rfl (by kernel_rfl) (wl_cmp rfl rfl rfl true (cb_lt_t (a:=i) (b:=n4) rfl rfl (by omega)) (by decide) (ne_ (cw_true rfl (cw_skip (eo_then (cw_seq (cw_block (cw_seq ?_))))))))))
  have hdb:=Wfb_getD (b:=65536) (by decide) hwds i
  have heb:=Wfb_getD (b:=65536) (by decide) hwes i
  by_cases hbig:es.getD i 0+t≤ds.getD i 0
  · 
   obtain⟨p23,hp23,hc23,hv23⟩:=(rl6).at (by decide) (i:=i) (by omega)
   refine cw_draw mix 10 [] [Is (.slice A4 n4 c4),Is (.int .i64 ((i:Nat):Int)),Is (.pointer (some p23)),Is (.int .i64 ((ds.getD i 0:Nat):Int)),Is (.slice A8 n8 c8),Is (.int .i64 ((i:Nat):Int)),Is (.int .i64 ((es.getD i 0:Nat):Int)),Is (.int .i64 (((ds.getD i 0)-(es.getD i 0):Nat):Int)),Is (.int .i64 ((t:Nat):Int)),Is (.int .i64 ((((ds.getD i 0)-(es.getD i 0))-t:Nat):Int))] [[],[],[0,1],[2],[],[],[4,5],[3,6],[],[7,8]] [[],[],[0,1],[0,1,2],[],[],[4,5],[0,1,2,3,4,5,6],[],[0,1,2,3,4,5,6,7,8],[0,1,2,3,4,5,6,7,8,9]] rfl
    (obs_cons rfl rfl (hob rfl rfl ?_) (obs_cons rfl rfl (hob rfl rfl ?_) (obs_cons rfl rfl (hob rfl rfl ?_) (obs_cons rfl rfl (hob rfl rfl ?_) (obs_cons rfl rfl (hob rfl rfl ?_) (obs_cons rfl rfl (hob rfl rfl ?_) (obs_cons rfl rfl (hob rfl rfl ?_) (obs_cons rfl rfl (hob rfl rfl ?_) (obs_cons rfl rfl (hob rfl rfl ?_) (obs_cons rfl rfl (hob rfl rfl ?_) obs_nil)))))))))) ?_
   · 
    exact fun _ _=>deps_nil (mv 1 rfl (pi_done rfl (Ext.refl _) rfl))
   · 
    exact fun _ _=>deps_nil (mv 1 rfl (pi_done rfl (Ext.refl _) rfl))
   · 
    exact fun _ _=>dk rfl rfl (dk rfl rfl (deps_nil (wl_idx rfl rfl rfl un_int sz_int i rfl (by omega) p23 hp23 (by decide) (pi_done rfl (Ext.refl _) rfl))))
   · 
    exact fun _ e41=>dk rfl rfl (deps_nil (wl_load rfl rfl (load_cell1 ag_int (e41.cell hc23)) (by decide) (pi_done rfl (Ext.refl _) rfl)))
   · 
    exact fun _ _=>deps_nil (mv 1 rfl (pi_done rfl (Ext.refl _) rfl))
   · 
    exact fun _ _=>deps_nil (mv 1 rfl (pi_done rfl (Ext.refl _) rfl))
   · 
    intro v51 e52
    have hw2:=hw1.trans e52
    refine dk rfl rfl (dk rfl rfl (deps_nil (cl (vs:= [.slice A8 n8 c8,.int .i64 ((i:Nat):Int)]) hw2 (g_ref1_at (rl7.ext e52) (by omega) (by omega)) rfl (by kernel_rfl) fun xr65 v63 r65 e64 hw3=>?_)))
    obtain rfl:=r65
    exact pi_done rfl e64 rfl
   · 
    exact fun _ _=>dk rfl rfl (dk rfl rfl (deps_nil (wl_ar rfl rfl rfl (((ds.getD i 0)-(es.getD i 0):Nat):Int) (ai_sub (a:=ds.getD i 0) (b:=es.getD i 0) rfl rfl (by omega) (by omega)) (by decide) (pi_done rfl (Ext.refl _) rfl))))
   · 
    exact fun _ _=>deps_nil (mv 1 rfl (pi_done rfl (Ext.refl _) rfl))
   · 
    exact fun _ _=>dk rfl rfl (dk rfl rfl (deps_nil (wl_ar rfl rfl rfl ((((ds.getD i 0)-(es.getD i 0))-t:Nat):Int) (ai_sub (a:=(ds.getD i 0)-(es.getD i 0)) (b:=t) rfl rfl (by omega) (by omega)) (by decide) (pi_done rfl (Ext.refl _) rfl))))
   · 
    intro v92 e93
    have hw2:=hw1.trans e93
    refine dk rfl rfl (dk rfl rfl (dk rfl rfl (dk rfl rfl (dk rfl rfl (dk rfl rfl (dk rfl rfl (dk rfl rfl (dk rfl rfl (dk rfl rfl (deps_nil (mv 1 rfl (wl_nil (eo_np ?_)))))))))))))
    refine eo_then (sr (mv 1 rfl (ne_ (cw_seq (sr (mv 1 rfl (wl_cmp rfl rfl rfl false (cb_lt_f (a:=((ds.getD i 0)-(es.getD i 0))-t) (b:=0) rfl rfl (by omega)) (by decide) (ne_ (cw_false rfl (cw_skip (eo_then (cw_region (mv 1 rfl ?_)))))))))))))
    refine mv 2 rfl (wl_idx rfl rfl rfl un_int sz_int i rfl (by omega) ⟨g12,i,none⟩ (arr_at _ _) (by decide) ?_)
    have hb145:=(hb.ext e93)
    refine wl_stored1 rfl rfl rfl sz_int rfl hb145 (len_map (by rw [hl];omega)) rfl ((l.set i (((ds.getD i 0)-(es.getD i 0))-t)).map I6) (map_I6_set _ _ _) fun v144 hb146 u147 hs148=>?_
    have hw3:=u147.ext hw2 ge17
    refine wl_nil (eo_block_normal (eo_then (cw_region (mv 1 rfl (wl_ar rfl rfl rfl ((i+1:Nat):Int) (ai_add (a:=i) (b:=1) rfl rfl (by omega)) (by decide) (mv 1 rfl (wl_nil (eo_round (⟨v144,i+1,0,_⟩:World×Nat×Nat×List Nat) ⟨hw3,(by omega),(by decide),hb146,(len_set (l:=l) (hl)),Wfb_set hwf _ (by omega),subd_step (by omega) (by omega) hv (by omega),(Ri.updL (rl6.ext e93) u147 ne21),(Ri.updL (rl7.ext e93) u147 ne22)⟩ (show n4-(i+1)<n4-i by omega) rfl ⟨rfl,rfl,rfl,rfl,rfl,trivial⟩))))))))
  · 
   obtain⟨p149,hp149,hc149,hv149⟩:=(rl6).at (by decide) (i:=i) (by omega)
   refine cw_draw mix 10 [] [Is (.slice A4 n4 c4),Is (.int .i64 ((i:Nat):Int)),Is (.pointer (some p149)),Is (.int .i64 ((ds.getD i 0:Nat):Int)),Is (.slice A8 n8 c8),Is (.int .i64 ((i:Nat):Int)),Is (.int .i64 ((es.getD i 0:Nat):Int)),Is (.int .i64 (((ds.getD i 0:Nat):Int)-((es.getD i 0:Nat):Int))),Is (.int .i64 ((t:Nat):Int)),Is (.int .i64 ((((ds.getD i 0:Nat):Int)-((es.getD i 0:Nat):Int))-((t:Nat):Int)))] [[],[],[0,1],[2],[],[],[4,5],[3,6],[],[7,8]] [[],[],[0,1],[0,1,2],[],[],[4,5],[0,1,2,3,4,5,6],[],[0,1,2,3,4,5,6,7,8],[0,1,2,3,4,5,6,7,8,9]] rfl
    (obs_cons rfl rfl (hob rfl rfl ?_) (obs_cons rfl rfl (hob rfl rfl ?_) (obs_cons rfl rfl (hob rfl rfl ?_) (obs_cons rfl rfl (hob rfl rfl ?_) (obs_cons rfl rfl (hob rfl rfl ?_) (obs_cons rfl rfl (hob rfl rfl ?_) (obs_cons rfl rfl (hob rfl rfl ?_) (obs_cons rfl rfl (hob rfl rfl ?_) (obs_cons rfl rfl (hob rfl rfl ?_) (obs_cons rfl rfl (hob rfl rfl ?_) obs_nil)))))))))) ?_
   · 
    exact fun _ _=>deps_nil (mv 1 rfl (pi_done rfl (Ext.refl _) rfl))
   · 
    exact fun _ _=>deps_nil (mv 1 rfl (pi_done rfl (Ext.refl _) rfl))
   · 
    exact fun _ _=>dk rfl rfl (dk rfl rfl (deps_nil (wl_idx rfl rfl rfl un_int sz_int i rfl (by omega) p149 hp149 (by decide) (pi_done rfl (Ext.refl _) rfl))))
   · 
    exact fun _ e167=>dk rfl rfl (deps_nil (wl_load rfl rfl (load_cell1 ag_int (e167.cell hc149)) (by decide) (pi_done rfl (Ext.refl _) rfl)))
   · 
    exact fun _ _=>deps_nil (mv 1 rfl (pi_done rfl (Ext.refl _) rfl))
   · 
    exact fun _ _=>deps_nil (mv 1 rfl (pi_done rfl (Ext.refl _) rfl))
   · 
    intro v177 e178
    have hw2:=hw1.trans e178
    refine dk rfl rfl (dk rfl rfl (deps_nil (cl (vs:= [.slice A8 n8 c8,.int .i64 ((i:Nat):Int)]) hw2 (g_ref1_at (rl7.ext e178) (by omega) (by omega)) rfl (by kernel_rfl) fun xr191 v189 r191 e190 hw3=>?_)))
    obtain rfl:=r191
    exact pi_done rfl e190 rfl
   · 
    exact fun _ _=>dk rfl rfl (dk rfl rfl (deps_nil (wl_ar rfl rfl rfl (((ds.getD i 0:Nat):Int)-((es.getD i 0:Nat):Int)) (ar_i64s rfl (by omega) (by omega)) (by decide) (pi_done rfl (Ext.refl _) rfl))))
   · 
    exact fun _ _=>deps_nil (mv 1 rfl (pi_done rfl (Ext.refl _) rfl))
   · 
    exact fun _ _=>dk rfl rfl (dk rfl rfl (deps_nil (wl_ar rfl rfl rfl ((((ds.getD i 0:Nat):Int)-((es.getD i 0:Nat):Int))-((t:Nat):Int)) (ar_i64s rfl (by omega) (by omega)) (by decide) (pi_done rfl (Ext.refl _) rfl))))
   · 
    intro v218 e219
    have hw2:=hw1.trans e219
    refine dk rfl rfl (dk rfl rfl (dk rfl rfl (dk rfl rfl (dk rfl rfl (dk rfl rfl (dk rfl rfl (dk rfl rfl (dk rfl rfl (dk rfl rfl (deps_nil (mv 1 rfl (wl_nil (eo_np ?_)))))))))))))
    refine eo_then (sr (mv 1 rfl (ne_ (cw_seq (sr (mv 1 rfl (wl_cmp rfl rfl rfl true (lt_t (by omega)) (by decide) (ne_ (cw_true rfl (sr (mv 1 rfl (wl_ar rfl rfl rfl ((ds.getD i 0+65536-es.getD i 0-t:Nat):Int) (ar_i64 (by omega) (by omega) (by omega)) (by decide) (mv 1 rfl ?_)))))))))))))
    refine ne_ (cw_region (mv 1 rfl (ne_ (cw_region (mv 3 rfl (wl_idx rfl rfl rfl un_int sz_int i rfl (by omega) ⟨g12,i,none⟩ (arr_at _ _) (by decide) ?_))))))
    have hb271:=(hb.ext e219)
    refine wl_stored1 rfl rfl rfl sz_int rfl hb271 (len_map (by rw [hl];omega)) rfl ((l.set i (ds.getD i 0+65536-es.getD i 0-t)).map I6) (map_I6_set _ _ _) fun v270 hb272 u273 hs274=>?_
    have hw3:=u273.ext hw2 ge17
    refine wl_nil (eo_block_normal (eo_then (cw_region (mv 1 rfl (wl_ar rfl rfl rfl ((i+1:Nat):Int) (ai_add (a:=i) (b:=1) rfl rfl (by omega)) (by decide) (mv 1 rfl (wl_nil (eo_round (⟨v270,i+1,1,_⟩:World×Nat×Nat×List Nat) ⟨hw3,(by omega),(by decide),hb272,(len_set (l:=l) (hl)),Wfb_set hwf _ (by omega),subd_step (by omega) (by omega) hv (by omega),(Ri.updL (rl6.ext e219) u273 ne21),(Ri.updL (rl7.ext e219) u273 ne22)⟩ (show n4-(i+1)<n4-i by omega) rfl ⟨rfl,rfl,rfl,rfl,rfl,trivial⟩))))))))
 · 
  refine cw_region (mv 2 rfl (pu (v:= .int .i64 ((n4:Nat):Int)) rfl (by kernel_rfl) (wl_cmp rfl rfl rfl false (cb_lt_f (a:=i) (b:=n4) rfl rfl (by omega)) (by decide) (ne_ (cw_false rfl (cw_exit (eo_thenX (eo_loopX (eo_block_here (eo_then (cw_seq ?_)))))))))))
  obtain rfl:n4=i:=by omega
  have hval:=sub_done hds hes (cmp3_le hle) hll6 hl hwf hv
  refine cw_region (mv 1 rfl (cl (vs:= [.slice (some ⟨g12,0,none⟩) n4 n4]) hw1 (g_ref1_Join hw1.size (hb.ri0 hwf hl (by omega)) (by omega)) rfl (by kernel_rfl) fun xr277 v275 r277 e276 hw2=>?_))
  obtain⟨A278,n278,c278,rfl,j278,o278⟩:=r277
  refine mv 2 rfl (ne_ (cw_ret (eo_ret [.slice A278 n278 c278,I0] rfl ⟨rfl,rfl,trivial⟩ ?_)))
  rw [hval] at j278 o278
  exact⟨_,rfl,⟨_,_,rfl,⟨_,_,_,rfl,j278,o278⟩,rfl⟩,hw2⟩
end Go.Proofs.YthggegdkpalgbaaGreatDoor
