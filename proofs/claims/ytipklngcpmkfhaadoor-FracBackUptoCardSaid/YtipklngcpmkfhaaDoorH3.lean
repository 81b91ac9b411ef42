/- Parts Fbm, Rs, Rxd, Rt, Ru, Rxe, Rv, Rw, Atm, Atx, Str, Law4, Law4t, Grp2, Strc, Law5s, Atr, Law8, Law8b, Zlb, Fr, Lg8, Fbt, Sxt, joined. -/
import Derived.Test.YtipklngcpmkfhaaDoorH2
import Derived.Laws.RangeAny
import Derived.ChangeMaps5
import Derived.Laws.Slices

namespace Go.Proofs.YtipklngcpmkfhaaDoor
open Go.RowKit
theorem blen_mono7 {a b:Nat}(h:a≤b):blen a≤blen b:=blen_le (Nat.lt_of_le_of_lt h (lt_blen b))
theorem low_uniq {p q p' q' x y:Int}(h:Low p q x y) (h':Low p' q' x y):p=p'∧q=q':=by
 refine lows_eq h.co h'.co h.pos h'.pos ?_
 have hy:y≠0:=fun e=>by have:=h.nq;have:=h.pos;subst e;simp at*;omega
 have e1:=h.eq
 have e2:=h'.eq
 refine Int.eq_of_mul_eq_mul_right hy ?_
 have e3:p*q'*y=(p*y)*q':=by grind
 have e4:p'*q*y=(p'*y)*q:=by grind
 rw [e3,e4,e1,e2];grind
def chnF:Nat→Int→Int→List Int
 | 0,_,_=> []
 | f+1,n,d=>if d=0 then [] else (n/d)::chnF f d (n%d)
def chn (n d:Int):List Int:=chnF d.toNat n d
theorem chnF_any:∀{f g:Nat}{n d:Int},0≤d→d.toNat≤f→d.toNat≤g→chnF f n d=chnF g n d
 | 0,0,_,_,_,_,_=>rfl
 | 0,g+1,n,d,h,h1,_=>by
  have:d=0:=by omega
  subst this;rfl
 | f+1,0,n,d,h,_,h2=>by
  have:d=0:=by omega
  subst this;rfl
 | f+1,g+1,n,d,h,h1,h2=>by
  unfold chnF
  split
  ·rfl
  ·rename_i h0
   have ha:=Int.emod_nonneg n h0
   have hb:=Int.emod_lt_of_pos n (show 0<d by omega)
   rw [chnF_any (f:=f) (g:=g) ha (by omega) (by omega)]
theorem chn_zero (n:Int):chn n 0= []:=rfl
theorem chn_step {n d:Int}(h:0<d):chn n d=(n/d)::chn d (n%d):=by
 have ha:=Int.emod_nonneg n (show d≠0 by omega)
 have hb:=Int.emod_lt_of_pos n h
 obtain⟨k,hk⟩:∃k,d.toNat=k+1:=⟨d.toNat-1,by omega⟩
 unfold chn
 rw [hk,chnF,if_neg (by omega),chnF_any (f:=k) (g:=(n%d).toNat) ha (by omega) (Nat.le_refl _)]
theorem chn_ind {P : Int → Int → Prop} (h0 : ∀ n, P n 0) (hs : ∀ n d, 0 < d → P d (n % d) → P n d) : ∀ (n d : Int), 0 ≤ d → P n d := by
  have key : ∀ (k : Nat) (n d : Int), 0 ≤ d → d.toNat ≤ k → P n d := by
    intro k
    induction k with
    | zero => intro n d h1 h2; have : d = 0 := by omega
              subst this; exact h0 n
    | succ k ih =>
      intro n d h1 h2
      by_cases hd : d = 0
      · subst hd; exact h0 n
      · have ha := Int.emod_nonneg n hd
        have hb := Int.emod_lt_of_pos n (show 0 < d by omega)
        exact hs n d (by omega) (ih d (n % d) ha (by omega))
  exact fun n d h => key d.toNat n d h (Nat.le_refl _)
theorem chn_pos:∀(n d:Int),0≤d→d<n→∀z,z∈chn n d→1≤z:=by
 refine chn_ind (P:=fun n d=>d<n→∀z,z∈chn n d→1≤z) (fun n _ z hz=>by rw [chn_zero] at hz;cases hz) fun n d hd ih hlt z hz=>?_
 rw [chn_step hd] at hz
 rcases List.mem_cons.1 hz with rfl | hz
 ·exact (Int.le_ediv_iff_mul_le hd).2 (by omega)
 ·exact ih (Int.emod_lt_of_pos n hd) z hz
theorem chn_tail {n d:Int}(hd:0<d):∀z,z∈(chn n d).drop 1→1≤z:=by
 rw [chn_step hd]
 exact chn_pos d (n%d) (Int.emod_nonneg n (by omega)) (Int.emod_lt_of_pos n hd)
theorem chn_last:∀(n d:Int),0≤d→0<d→d<n→1<(chn n d).getD ((chn n d).length-1) 0:=by
 refine chn_ind (P:=fun n d=>0<d→d<n→1<(chn n d).getD ((chn n d).length-1) 0) (fun n h=>by omega) fun n d hd ih _ hlt=>?_
 rw [chn_step hd]
 have ha:=Int.emod_nonneg n (show d≠0 by omega)
 have hb:=Int.emod_lt_of_pos n hd
 by_cases h0:n%d=0
 ·rw [h0,chn_zero]
  show 1<n/d
  have h1:=Int.mul_ediv_add_emod n d
  rw [h0] at h1
  refine Int.lt_of_not_ge fun hc=>?_
  have h2:d*(n/d)≤d*1:=Int.mul_le_mul_of_nonneg_left hc (by omega)
  omega
 ·have:=ih (by omega) hb
  have hne:0<(chn d (n%d)).length:=by rw [chn_step (by omega)];simp
  rw [List.length_cons,Nat.add_sub_cancel]
  obtain⟨k,hk⟩:∃k,(chn d (n%d)).length=k+1:=⟨(chn d (n%d)).length-1,by omega⟩
  rw [hk,Nat.add_sub_cancel] at this
  rw [hk]
  exact this
theorem chn_nd:∀(n d:Int),0≤d→(0<d∨0<n)→∃g:Int,0<g∧n=g*(nd (chn n d)).1∧d=g*(nd (chn n d)).2:=by
 refine chn_ind (P:=fun n d=>(0<d∨0<n)→∃g:Int,0<g∧n=g*(nd (chn n d)).1∧d=g*(nd (chn n d)).2) (fun n h=>?_) fun n d hd ih _=>?_
 ·rw [chn_zero]
  exact⟨n,by omega,by show n=n*1;omega,by show 0=n*0;omega⟩
 ·obtain⟨g,hg,h1,h2⟩:=ih (Or.inr hd)
  have h3:=Int.mul_ediv_add_emod n d
  refine⟨g,hg,?_,?_⟩
  ·rw [chn_step hd,nd_num]
   generalize n/d=q at*
   generalize n%d=r at*
   generalize (nd (chn d r)).1=u at*
   generalize (nd (chn d r)).2=v at*
   rw [←h3,h2,h1];grind
  ·rw [chn_step hd,nd_den];exact h1
theorem chn_drop:∀(n d:Int),0≤d→(0<d∨0<n)→∀k,∃n' d',(chn n d).drop k=chn n' d'∧0≤d'∧(0<d'∨0<n')∧n'.natAbs≤max n.natAbs d.natAbs∧d'.natAbs≤d.natAbs:=by
 refine chn_ind (P:=fun n d=>(0<d∨0<n)→∀k,∃n' d',(chn n d).drop k=chn n' d'∧0≤d'∧(0<d'∨0<n')∧n'.natAbs≤max n.natAbs d.natAbs∧d'.natAbs≤d.natAbs) (fun n h k=>?_) fun n d hd ih _ k=>?_
 ·exact⟨n,0,by rw [chn_zero,List.drop_nil],by omega,h,by omega,by omega⟩
 ·cases k with
  | zero=>exact⟨n,d,rfl,by omega,Or.inl hd,by omega,by omega⟩
  | succ k=>
   obtain⟨n',d',h1,h2,h3,h4,h5⟩:=ih (Or.inr hd) k
   have ha:=Int.emod_nonneg n (show d≠0 by omega)
   have hb:=Int.emod_lt_of_pos n hd
   exact⟨n',d',by rw [chn_step hd,List.drop_succ_cons];exact h1,h2,h3,by omega,by omega⟩
theorem chn_lnd {n d:Int}{N:Nat}(hd:0<d) (hn:ln n≤N) (hl:ln d≤N) (k:Nat):ln (nd ((chn n d).drop k)).1≤N∧ln (nd ((chn n d).drop k)).2≤N:=by
 obtain⟨n',d',h1,h2,h3,h4,h5⟩:=chn_drop n d (by omega) (Or.inl hd) k
 obtain⟨g,hg,h6,h7⟩:=chn_nd n' d' h2 h3
 rw [h1]
 have e1:(nd (chn n' d')).1.natAbs≤n'.natAbs:=by
  have e:n'.natAbs=g.natAbs*(nd (chn n' d')).1.natAbs:=by rw [←Int.natAbs_mul,←h6]
  rw [e];exact Nat.le_mul_of_pos_left _ (by omega)
 have e2:(nd (chn n' d')).2.natAbs≤d'.natAbs:=by
  have e:d'.natAbs=g.natAbs*(nd (chn n' d')).2.natAbs:=by rw [←Int.natAbs_mul,←h7]
  rw [e];exact Nat.le_mul_of_pos_left _ (by omega)
 have hm:∀z:Int,z.natAbs≤max n.natAbs d.natAbs→ln z≤N:=fun z hz=>by
  rcases Nat.le_total n.natAbs d.natAbs with h | h
  ·exact Nat.le_trans (ln_mono (by omega)) hl
  ·exact Nat.le_trans (ln_mono (y:=n) (by omega)) hn
 exact⟨hm _ (by omega),hm _ (by omega)⟩
theorem ln_edivF {n d:Int}{N:Nat}(hd:0<d) (hn:ln n≤N) (hN:1≤N):ln (n/d)≤N+1:=by
 have h1:=Int.mul_ediv_add_emod n d
 have h2:=Int.emod_nonneg n (show d≠0 by omega)
 have h3:=Int.emod_lt_of_pos n hd
 exact ln_floq (y:=d) (r:=n%d) ⟨by rw [Int.mul_comm];exact h1,fun _=>⟨h2,h3⟩,fun h=>by omega⟩ (by omega) hn hN
theorem chn_len:∀(n d:Int),0≤d→(chn n d).length≤2*blen d.natAbs:=by
 have key:∀(k:Nat) (n d:Int),0≤d→d.natAbs≤k→(chn n d).length≤2*blen d.natAbs:=by
  intro k
  induction k using Nat.strongRecOn with
  | _ k ih=>
   intro n d h0 hk
   by_cases hd:d=0
   ·subst hd;exact Nat.zero_le _
   ·have hdp:0<d:=by omega
    have ha:=Int.emod_nonneg n hd
    have hb:=Int.emod_lt_of_pos n hdp
    have hb1:1≤blen d.natAbs:=by
     refine Nat.pos_of_ne_zero fun e=>?_
     have:=blen_eq_zero.1 e;omega
    rw [chn_step hdp,List.length_cons]
    by_cases hr:n%d=0
    ·rw [hr,chn_zero];simp;omega
    ·have hrp:0<n%d:=by omega
     have ha2:=Int.emod_nonneg d hr
     have hb2:=Int.emod_lt_of_pos d hrp
     rw [chn_step hrp,List.length_cons]
     generalize n%d=r at*
     have hs:2*(d%r).natAbs<d.natAbs:=by
      have h1:=Int.mul_ediv_add_emod d r
      have h2:1≤d/r:=(Int.le_ediv_iff_mul_le hrp).2 (by omega)
      have h3:r*1≤r*(d/r):=Int.mul_le_mul_of_nonneg_left h2 (by omega)
      omega
     have h4:=ih (k-1) (by omega) r (d%r) ha2 (by omega)
     have h5:blen (d%r).natAbs+1≤blen d.natAbs:=by
      by_cases h6:(d%r).natAbs=0
      ·rw [h6,blen_eq_zero.2 rfl];omega
      ·have h7:=blen_shl (n:=(d%r).natAbs) (s:=1) h6
       rw [Nat.pow_one] at h7
       rw [←h7]
       exact blen_mono7 (by omega)
     omega
 exact fun n d h=>key d.natAbs n d h (Nat.le_refl _)
theorem snocRecR {α:Type}{p:List α→Prop}(nil:p []) (snoc:∀r a,p r→p (r++ [a])) (l:List α):p l:=by
 have h:∀r:List α,p r.reverse:=by
  intro r
  induction r with
  | nil=>exact nil
  | cons a r ih=>rw [List.reverse_cons];exact snoc _ _ ih
 have:=h l.reverse
 rwa [List.reverse_reverse] at this
theorem strB_get {bs:List Nat}(hb:∀b,b∈bs→b<256){i:Nat}(hi:i<bs.length) (h:i<(strB bs).size):((strB bs)[i]'h).toNat=bs.getD i 0:=by
 have e:(strB bs)[i]'h=UInt8.ofNat (bs.getD i 0):=by
  show ((bs.map UInt8.ofNat).toArray)[i]'(by simpa using hi)=_
  rw [List.getElem_toArray,List.getElem_map,List.getD_eq_getElem?_getD,List.getElem?_eq_getElem hi];rfl
 rw [e,UInt8.toNat_ofNat']
 refine Nat.mod_eq_of_lt ?_
 rw [List.getD_eq_getElem?_getD,List.getElem?_eq_getElem hi]
 exact hb _ (List.getElem_mem hi)
def It (w:World) (g:Nat) (bs:List Nat) (pos:Nat):Prop:=w.heap[g]?=some (.stringIter (strB bs) pos)
theorem It.lt {w:World}{g:Nat}{bs:List Nat}{pos:Nat}(h:It w g bs pos):g<w.heap.size:=(Array.getElem?_eq_some_iff.1 h).1
theorem It.ext {w w':World}{g:Nat}{bs:List Nat}{pos:Nat}(h:It w g bs pos) (e:Ext w w'):It w' g bs pos:=e.heap h
theorem It.upd {w w':World}{g k:Nat}{bs:List Nat}{pos:Nat}(h:It w g bs pos) (e:Upd k w w') (hne:g≠k):It w' g bs pos:=e.heap h hne
theorem It.updO {w w':World}{g:Nat}{A:Option Addr}{bs:List Nat}{pos:Nat}(h:It w g bs pos) (e:UpdO A w w') (hne:∀p,A=some p→p.block≠g):It w' g bs pos:=e.heap h hne
theorem it_own_ne {w:World}{b t s n c g pos:Nat}{A:Option Addr}{us:List Value}{bs:List Nat}(h:Own w b t s A n c us) (hi:It w g bs pos):∀p,A=some p→p.block≠g:=fun p hp e=>by
 rcases h with⟨h,_⟩ | ⟨k,cs,hA,_,hk,_⟩
 ·rw [h] at hp;cases hp
 ·rw [hA] at hp;cases hp
  simp only at e
  subst e
  unfold Bk at hk
  unfold It at hi
  rw [hk] at hi
  cases hi
theorem Own.updI {w w':World}{b t s n c g pos:Nat}{A:Option Addr}{us:List Value}{bs:List Nat}(h:Own w b t s A n c us) (hi:It w g bs pos) (u:Upd g w w'):Own w' b t s A n c us:=h.upd u (it_own_ne h hi)
section
variable {P:Program}{Q:Exit→Act→World→Prop}{n:Nat}{l:Fr}{w:World}{ops:Array Oper}{rest:List Oper}{d:Nat}{ty:TypeId}{pos:String}{af:Array Edge}{gd:Option (Nat×Bool)}
theorem wl_range {x:Operand}{t:TypeId}{bs:List Nat}(hw:guardB ops l gd=some true) (hx:evo l x=some (.string (strB bs))) (ht:P.underlying t=some .string) (hn:d<n)
  (h:∀g w',w.heap.size=g→It w' g bs 0→Ext w w'→wl P ops Q n rest ((d,.pointer (some ⟨g,0,none⟩))::l) w'):wl P ops Q n (⟨some d,.range t x,ty,pos,af,gd⟩::rest) l w:=by
 refine wl_val hw hn (fun a' ha=>?_) (h _ (w.iter (strB bs) 0) rfl (World.iter_heap w _ 0) ((Ext.refl w).alloc _))
 have e:(Instr.range t (a'.eval x)).run P w= .ok (.pointer (some ⟨w.heap.size,0,none⟩)) (w.iter (strB bs) 0):=by rw [ha.ev hx];exact run_range_string w t _ ht
 show ((Instr.range t (a'.eval x)>>=fun r=>pure (Next.value r):Sem Next)).run P w=_
 rw [Sem.run_bind,e];rfl
theorem run_nextI {g p:Nat}{bs:List Nat}(h:It w g bs p) (hp:p<bs.length) (ty:TypeId):
  ∃w',(Instr.next (.pointer (some ⟨g,0,none⟩)) true ty).run P w= .ok (.tuple #[.bool true,.int .i64 (p:Int),.int .i32 ((Utf8.decode (strB bs) p).1:Int)]) w'∧It w' g bs (p+(Utf8.decode (strB bs) p).2)∧Upd g w w':=by
 have hs:p<(strB bs).size:=by rw [strB_size];exact hp
 refine⟨{w with heap:=w.heap.setIfInBounds g (.stringIter (strB bs) (p+(Utf8.decode (strB bs) p).2))},?_,?_,?_⟩
 ·unfold It at h
  simp only [Instr.next,getObj,setObj,Sem.run_bind,Sem.run,h,Result.andThen,hs,if_true]
  simp [goInt]
 ·unfold It
  have:=h.lt
  simp [this]
 ·refine⟨⟨rfl,rfl,rfl,by simp,fun k hk hne=>?_⟩⟩
  have:g≠k:=fun e=>hne (by rw [e])
  simp [this]
theorem run_nextI_end {g p:Nat}{bs:List Nat}(h:It w g bs p) (hp:¬p<bs.length) (ty:TypeId):(Instr.next (.pointer (some ⟨g,0,none⟩)) true ty).run P w= .ok (.tuple #[.bool false]) w:=by
 have hs:¬p<(strB bs).size:=by rw [strB_size];exact hp
 unfold It at h
 simp [Instr.next,getObj,Sem.run,h,hs]
theorem wl_next {x:Operand}{g p:Nat}{bs:List Nat}(hw:guardB ops l gd=some true) (hx:evo l x=some (.pointer (some ⟨g,0,none⟩))) (h:It w g bs p) (hp:p<bs.length) (hn:d<n)
  (k:∀w',It w' g bs (p+(Utf8.decode (strB bs) p).2)→Upd g w w'→wl P ops Q n rest ((d,.tuple #[.bool true,.int .i64 (p:Int),.int .i32 ((Utf8.decode (strB bs) p).1:Int)])::l) w'):
  wl P ops Q n (⟨some d,.next x true,ty,pos,af,gd⟩::rest) l w:=by
 obtain⟨w',hr,h1,h2⟩:=run_nextI (P:=P) h hp ty
 refine wl_val hw hn (fun a' ha=>?_) (k w' h1 h2)
 have e:(Instr.next (a'.eval x) true ty).run P w= .ok (.tuple #[.bool true,.int .i64 (p:Int),.int .i32 ((Utf8.decode (strB bs) p).1:Int)]) w':=by rw [ha.ev hx];exact hr
 show ((Instr.next (a'.eval x) true ty>>=fun r=>pure (Next.value r):Sem Next)).run P w=_
 rw [Sem.run_bind,e];rfl
theorem wl_next_end {x:Operand}{g p:Nat}{bs:List Nat}(hw:guardB ops l gd=some true) (hx:evo l x=some (.pointer (some ⟨g,0,none⟩))) (h:It w g bs p) (hp:¬p<bs.length) (hn:d<n)
  (k:wl P ops Q n rest ((d,.tuple #[.bool false])::l) w):wl P ops Q n (⟨some d,.next x true,ty,pos,af,gd⟩::rest) l w:=by
 refine wl_val hw hn (fun a' ha=>?_) k
 have e:(Instr.next (a'.eval x) true ty).run P w= .ok (.tuple #[.bool false]) w:=by rw [ha.ev hx];exact run_nextI_end (P:=P) h hp ty
 show ((Instr.next (a'.eval x) true ty>>=fun r=>pure (Next.value r):Sem Next)).run P w=_
 rw [Sem.run_bind,e];rfl
end
def dv (c:Nat):Nat:=if 48≤c∧c≤57 then c-48 else if 97≤c∧c≤122 then c-87 else if 65≤c∧c≤90 then c-55 else 36
theorem dv_le (c:Nat):dv c≤36:=by unfold dv;split <;> (try split) <;> (try split) <;> omega
theorem dv_high {c:Nat}(h:128≤c):dv c=36:=by unfold dv;rw [if_neg (by omega),if_neg (by omega),if_neg (by omega)]
theorem decode_low {bs:List Nat}(hb:∀b,b∈bs→b<256){p:Nat}(hp:p<bs.length) (h:bs.getD p 0<128):Utf8.decode (strB bs) p=(bs.getD p 0,1):=by
 have hs:p<(strB bs).size:=by rw [strB_size];exact hp
 have e:=strB_get hb hp hs
 rw [decode_ascii (strB bs) p hs (by rw [e];exact h),e]
def vald (b:Nat) (ds:List Nat):Nat:=ds.foldl (fun a d=>a*b+d) 0
theorem vald_snoc (b:Nat) (ds:List Nat) (d:Nat):vald b (ds++ [d])=vald b ds*b+d:=by unfold vald;rw [List.foldl_append];rfl
theorem vald_foldl (b a:Nat):∀ds:List Nat,ds.foldl (fun a d=>a*b+d) a=a*b^ds.length+vald b ds
 | []=>by simp [vald]
 | d::ds=>by
  have e:vald b (d::ds)=(0*b+d)*b^ds.length+vald b ds:=by
   unfold vald;rw [List.foldl_cons];exact vald_foldl b _ ds
  rw [List.foldl_cons,vald_foldl b _ ds,e,List.length_cons,Nat.pow_succ]
  simp only [Nat.zero_mul,Nat.zero_add,Nat.add_mul,Nat.mul_assoc]
  rw [Nat.mul_comm b (b^ds.length)]
  omega
theorem vald_append (b:Nat) (xs ys:List Nat):vald b (xs++ys)=vald b xs*b^ys.length+vald b ys:=by
 unfold vald
 rw [List.foldl_append,vald_foldl]
 rfl
theorem vald_lt {b:Nat}(_hb:1≤b):∀ds:List Nat,(∀d,d∈ds→d<b)→vald b ds<b^ds.length:=by
 intro ds
 induction ds using snocRecR with
 | nil=>intro _;simp [vald]
 | snoc r a ih=>
  intro h
  have h1:=ih fun d hd=>h d (by simp [hd])
  have h2:=h a (by simp)
  rw [vald_snoc,List.length_append,List.length_singleton,Nat.pow_succ]
  have h3:(vald b r+1)*b≤b^r.length*b:=Nat.mul_le_mul_right b h1
  rw [Nat.add_mul,Nat.one_mul] at h3
  omega
def Good (b:Nat) (bs:List Nat):Prop:=bs≠ []∧∀c,c∈bs→dv c<b
theorem i64_shl {x s:Nat}(hs:s≤64) (hx:x*2^s≤9223372036854775807) (P:Program) (t:TypeId) (w:World):(binOp .shl t (.int .i64 (x:Int)) (.int .u64 (s:Int))).run P w= .ok (.int .i64 ((x*2^s:Nat):Int)) w:=by
 have e:((x:Int)*2^min (s:Int).toNat IntKind.i64.bits)=((x*2^s:Nat):Int):=by
  rw [Int.toNat_natCast,show min s IntKind.i64.bits=s from Nat.min_eq_left hs];simp
 simp only [binOp]
 rw [shift_shl_any _ _ _ _ (by omega),e,IntWalk.i64_in _ ⟨by omega,by omega⟩];rfl
def pslice (e:ZC):Value:= .slice e.A e.n e.c
def Pw (w:World) (pb:Nat) (PA:Option Addr) (pn pc unit:Nat):Prop:=∃es:List ZC,Own w pb 22 1 PA pn pc (es.map pslice)∧es.length=pn∧
 ∀i,i<pn→(es.getD i ZC.zero).n=(wd (unit^2^i)).length∧(es.getD i ZC.zero).n≤8388608∧Own w 0 50 1 (es.getD i ZC.zero).A (es.getD i ZC.zero).n (es.getD i ZC.zero).c ((wd (unit^2^i)).map W64)
theorem Pw.nil (w:World) (pb unit:Nat):Pw w pb none 0 0 unit:=⟨[],Own.nil _ _ _ _,rfl,fun i hi=>by omega⟩
theorem Pw.ext {w w':World}{PA:Option Addr}{pb pn pc unit:Nat}(h:Pw w pb PA pn pc unit) (e:Ext w w'):Pw w' pb PA pn pc unit:=by
 obtain⟨es,h1,h2,h3⟩:=h
 exact⟨es,h1.ext e,h2,fun i hi=>⟨(h3 i hi).1,(h3 i hi).2.1,(h3 i hi).2.2.ext e⟩⟩
theorem Pw.updW {lb:Nat}{w w':World}{PA:Option Addr}{pb pn pc unit:Nat}(h:Pw w pb PA pn pc unit) (u:UpdW lb w w'):Pw w' pb PA pn pc unit:=by
 obtain⟨es,h1,h2,h3⟩:=h
 exact⟨es,u.own h1 (by decide) (by decide),h2,fun i hi=>⟨(h3 i hi).1,(h3 i hi).2.1,u.own (h3 i hi).2.2 (by decide) (by decide)⟩⟩
theorem Pw.updT {w w':World}{PA:Option Addr}{pb pn pc unit g:Nat}{T:TypeId}{us:List Value}(h:Pw w pb PA pn pc unit) (hb:Bk w g T us) (u:Upd g w w') (h1:22≠T) (h2:50≠T):Pw w' pb PA pn pc unit:=by
 obtain⟨es,h4,h5,h3⟩:=h
 exact⟨es,h4.updT hb h1 u,h5,fun i hi=>⟨(h3 i hi).1,(h3 i hi).2.1,(h3 i hi).2.2.updT hb h2 u⟩⟩
theorem Pw.at {w:World}{PA:Option Addr}{pb pn pc unit i:Nat}(h:Pw w pb PA pn pc unit) (hi:i<pn):∃p A n c,PA.map (·.add (i*1))=some p∧w.cell? p=some (.slice A n c)∧n=(wd (unit^2^i)).length∧n≤8388608∧Own w 0 50 1 A n c ((wd (unit^2^i)).map W64):=by
 obtain⟨es,h1,h2,h3⟩:=h
 obtain⟨a,ha,hc⟩:=h1.rv.get i (by omega)
 have e:(es.map pslice).getD i undef=pslice (es.getD i ZC.zero):=by
  simp [List.getD_eq_getElem?_getD,List.getElem?_map,List.getElem?_eq_getElem (show i<es.length by omega)]
 rw [e] at hc
 obtain⟨h4,h5,h6⟩:=h3 i hi
 exact⟨a.add i,_,_,_,by rw [ha,Nat.mul_one];rfl,hc,h4,h5,h6⟩
theorem Pw.mono {w:World}{pb pb':Nat}{PA:Option Addr}{pn pc unit:Nat}(h:Pw w pb PA pn pc unit) (hb:pb'≤pb):Pw w pb' PA pn pc unit:=by
 obtain⟨es,h1,h2,h3⟩:=h
 exact⟨es,h1.mono hb,h2,h3⟩
theorem wl_appP {Q:Exit→Act→World→Prop}{N:Nat}{l:Fr}{w:World}{ops:Array Oper}{rest:List Oper}{d:Nat}{ty:TypeId}{pos:String}{af:Array Edge}{gd:Option (Nat×Bool)}{x y:Operand}{pb pn pc unit g c n qc b:Nat}{PA A:Option Addr}(hw:guardB ops l gd=some true)
  (hx:evo l x=some (.slice PA pn pc)) (hy:evo l y=some (.slice (some ⟨g,0,none⟩) 1 c)) (h:Pw w pb PA pn pc unit) (hpb:pb≤w.heap.size) (hb:Bk w g 22 [.slice A n qc]) (hn:n=(wd (unit^2^pn)).length) (hn8:n≤8388608) (ho:Own w b 50 1 A n qc ((wd (unit^2^pn)).map W64)) (hm:pn≤64) (hd:d<N)
  (k:∀A' c' w',Pw w' pb A' (pn+1) c' unit→UpdO PA w w'→(∃us,Own w pb 22 1 PA pn pc us)→wl Tryd.prog ops Q N rest ((d,.slice A' (pn+1) c')::l) w'):
  wl Tryd.prog ops Q N (⟨some d,.call {callee:= .builtin .append,args:= #[x,y],argTypes:= #[116,116]},ty,pos,af,gd⟩::rest) l w:=by
 obtain⟨es,h1,h2,h3⟩:=h
 refine wl_app hw hx hy un_wl info_wl rfl (by decide) (by decide) h1 hpb [.slice A n qc] rfl (one_news _ hb) rfl (by omega) hd fun A' c' w' ho' hu _=>k A' c' w' ?_ hu ⟨_,h1⟩
 refine⟨es++ [⟨false,A,n,qc⟩],by rw [List.map_append];exact ho',by simp [h2],fun i hi=>?_⟩
 by_cases hin:i<pn
 ·rw [getD_app_l (by omega)]
  exact⟨(h3 i hin).1,(h3 i hin).2.1,(h3 i hin).2.2.updOT h1 (by decide) hu⟩
 ·have e1:i=pn:=by omega
  subst e1
  have e2:(es++ [(⟨false,A,n,qc⟩:ZC)]).getD i ZC.zero=⟨false,A,n,qc⟩:=by rw [←h2];exact getD_app_m
  rw [e2]
  exact⟨hn,hn8,(ho.mono (Nat.zero_le b)).updOT h1 (by decide) hu⟩
theorem bw_own {w:World}{g x:Nat}(h:Bk w g 50 [.int .u64 ((x:Nat):Int)]) (hx:x≤18446744073709551615) (h0:x≠0):Own w 0 50 1 (some ⟨g,0,none⟩) 1 1 ((wd x).map W64):=
 own1_wd (Own.mk_ (Nat.zero_le _) h (Nat.le_refl _) (by rw [len_maxLen];omega) rfl rfl) hx h0
theorem pow_sq {u j:Nat}:u^2^j*u^2^j=u^2^(j+1):=by rw [←Nat.pow_add,Nat.pow_succ];congr 1;omega
theorem len_sq {p n:Nat}(h:(wd p).length≤n):(wd (p*p)).length≤2*n:=by
 refine len_wd_le ?_
 have h1:=lt_pow_len p
 have h2:p<WB^n:=Nat.lt_of_lt_of_le h1 (Nat.pow_le_pow_right (by rw [WB_def];decide) h)
 rw [Nat.two_mul,Nat.pow_add]
 exact Nat.mul_lt_mul'' h2 h2
theorem rx_Cmp {w:World}{A B:Option Addr}{n c n' c' m m':Nat}(hx:Wi w A n c m) (hl:n≤1099511627776) (hy:Wi w B n' c' m') (hl':n'≤1099511627776):Calls Tryd.prog 44 #[.slice A n c,.slice B n' c'] w (Gv w (Is (.int .i64 (cmp3 m m')))):=by
 obtain⟨xs,h1,rfl⟩:=hx
 obtain⟨ys,h2,rfl⟩:=hy
 refine (nat_Cmp h1 hl h2 hl').mono fun e w' h=>?_
 obtain⟨d,h3,_,_,rfl,h4⟩:=h
 exact⟨_,rfl,(show Value.int .i64 d=_ by rw [h3.out]),h4⟩
theorem rx_DivMod {w:World}{b:Nat}(hb:b≤w.heap.size){A B:Option Addr}{n c n' c' m m':Nat}(hx:Wi w A n c m) (hl:n≤274877906944) (hy:Wi w B n' c' m') (hl':n'≤274877906944) (h0:m'≠0):Calls Tryd.prog 84 #[.slice A n c,.slice B n' c'] w (Gv w (T3 (WR b (m/m')) (WR b (m%m')) (Is (.int .i64 0)))):=by
 obtain⟨xs,h1,rfl⟩:=hx
 obtain⟨ys,h2,rfl⟩:=hy
 refine (divnat_DivMod h1 hl h2 hl' h0).mono fun e w' h=>?_
 obtain⟨A,n,cap,B,m,cap',rfl,h3,_,h4,h5,_,h6,h7⟩:=h
 exact⟨_,rfl,⟨_,_,_,rfl,⟨A,n,cap,rfl,h3.out,h4.mono hb⟩,⟨B,m,cap',rfl,h5.out,h6.mono hb⟩,rfl⟩,h7⟩
theorem rx_Square {w:World}{b:Nat}(hb:b≤w.heap.size){A:Option Addr}{n c m:Nat}(hx:Wi w A n c m) (hl:n≤137438953472):Calls Tryd.prog 83 #[.slice A n c] w (Gv w (WR b (m*m))):=by
 obtain⟨xs,h1,rfl⟩:=hx
 exact (mulnat_Square h1 hl).mono (gw hb)
theorem cmp3_ltT {x y:Nat}(h:x<y):cmpB .lss (cmp3 x y) 0=some true:=lt_t (cmp3_neg.2 h)
theorem cmp3_ltF {x y:Nat}(h:y≤x):cmpB .lss (cmp3 x y) 0=some false:=lt_f (by have:=cmp3_neg (a:=x) (b:=y);omega)
theorem cmp3_leT {x y:Nat}(h:x≤y):cmpB .leq (cmp3 x y) 0=some true:=le_t (by have:=cmp3_pos (a:=x) (b:=y);omega)
theorem cmp3_leF {x y:Nat}(h:y<x):cmpB .leq (cmp3 x y) 0=some false:=le_f (cmp3_pos.2 h)
theorem pow_le_bits {u m ip an:Nat}(hu:2≤u) (h:u^2^ip≤m) (hl:(wd m).length≤an):2^ip≤64*an:=by
 have h1:=lt_pow_len m
 rw [WB_pow,←Nat.pow_mul] at h1
 have h2:2^2^ip≤u^2^ip:=Nat.pow_le_pow_left hu _
 have h3:2^(64*(wd m).length)≤2^(64*an):=Nat.pow_le_pow_right (by decide) (Nat.mul_le_mul_left _ hl)
 exact Nat.le_of_lt ((Nat.pow_lt_pow_iff_right (by decide)).1 (Nat.lt_of_le_of_lt h2 (Nat.lt_of_le_of_lt h (Nat.lt_of_lt_of_le h1 h3))))
theorem ip_small {ip n:Nat}(h:2^ip≤n) (hn:n≤268435456):ip≤28:=by
 refine Nat.le_of_not_lt fun h2=>?_
 have h3:2^29≤2^ip:=Nat.pow_le_pow_right (by decide) h2
 omega
theorem txt_two {b k ip m width:Nat}(hb:2≤b) (h:(b^k)^2^ip≤m) (h0:0<(b^k)^2^ip):txt (padTo (db b (m/(b^k)^2^ip)) (width-k*2^ip))++txt (padTo (db b (m%(b^k)^2^ip)) (k*2^ip))=txt (padTo (db b m) width):=by
 have e:(b^k)^2^ip=b^(k*2^ip):=by rw [←Nat.pow_mul]
 rw [e] at h h0⊢
 have hq:m/b^(k*2^ip)≠0:=by have:=Nat.div_pos h h0;omega
 have hr:(db b (m%b^(k*2^ip))).length≤k*2^ip:=len_db_le hb (Nat.mod_lt _ h0)
 have hl:(padTo (db b (m%b^(k*2^ip))) (k*2^ip)).length=k*2^ip:=by rw [len_padTo];omega
 rw [←txt_app,padTo_app,←db_split hb hq,hl]
 by_cases hw:k*2^ip≤width
 ·rw [show k*2^ip+(width-k*2^ip)=width by omega]
 ·have h2:k*2^ip≤(db b m).length:=by rw [db_split hb hq,List.length_append,hl];omega
  rw [padTo_of (by omega),padTo_of (by omega)]
theorem two_len {b k ip m width:Nat}(hb:2≤b) (h:(b^k)^2^ip≤m) (h0:0<(b^k)^2^ip):max (width-k*2^ip) (db b (m/(b^k)^2^ip)).length+k*2^ip=max width (db b m).length∨(width<k*2^ip∧(db b (m/(b^k)^2^ip)).length+k*2^ip=(db b m).length):=by
 have e:(b^k)^2^ip=b^(k*2^ip):=by rw [←Nat.pow_mul]
 rw [e] at h h0⊢
 have hq:m/b^(k*2^ip)≠0:=by have:=Nat.div_pos h h0;omega
 have hr:(db b (m%b^(k*2^ip))).length≤k*2^ip:=len_db_le hb (Nat.mod_lt _ h0)
 have hl:(padTo (db b (m%b^(k*2^ip))) (k*2^ip)).length=k*2^ip:=by rw [len_padTo];omega
 have h2:(db b m).length=k*2^ip+(db b (m/b^(k*2^ip))).length:=by rw [db_split hb hq,List.length_append,hl]
 omega
def HalvesOk (ip:Nat):Prop:=∀{w:World}{g base k unit:Nat}{PA:Option Addr}{pn pc:Nat}{OA:Option Addr}{on oc lb:Nat}{bs:List Nat}{A:Option Addr}{an ac m width:Nat}{ii:Int}(_:ii=(ip:Int)-1) (_:Signs w) (_:4<lb) (_:2≤base) (_:base≤36) (_:Wr w g base k unit PA pn pc OA on oc)
 (_:Own w lb 5 1 OA on oc (bs.map B8)) (_:lb≤g) (_:lb≤w.heap.size) (_:Wi w A an ac m) (_:an≤4194304) (_:unit=base^k) (_:PieceK base k) (_:width≤137438953472) (_:on+max width (db base m).length≤137438953472) (_:Pw w 0 PA pn pc unit) (_:ip≤pn) (_:pn≤64),
 Calls Tryd.prog 93 #[.pointer (some ⟨g,0,none⟩),.slice A an ac,.int .i64 ii,.int .i64 ((width:Nat):Int)] w (WrP w lb g base k unit PA pn pc OA (bs++txt (padTo (db base m) width)))
theorem halves_zero:HalvesOk 0:=by
 intro w g base k unit PA pn pc OA on oc lb bs A an ac m width ii hii hS hgS hbl hbu hW hO hgl hlb ha hal hun hkk hwd hon hP hip hpn
 obtain rfl:ii= -1:=by omega
 exact rx_halves_low hS hgS hbl hbu hW hO hgl hlb ha hal hun hkk hwd (by omega)
set_option maxHeartbeats 4000000 in
theorem halves_step {ip:Nat}(ih:HalvesOk ip):HalvesOk (ip+1):=by
 intro w g base k unit PA pn pc OA on oc lb bs A an ac m width ii hii hS hgS hbl hbu hW hO hgl hlb ha hal hun hkk hwd hon hP hip hpn
 obtain rfl:ii=(ip:Int):=by omega
 have hml:(wd m).length≤4194304:=Nat.le_trans ha.len hal
 have hk1:1≤k:=by refine Nat.pos_of_ne_zero (fun e=>?_);have:=hkk.gt;rw [e,Nat.zero_add,Nat.pow_one] at this;omega
 have hu2:2≤unit:=by rw [hun];exact Nat.le_trans hbl (Nat.le_trans (Nat.le_of_eq (Nat.pow_one base).symm) (Nat.pow_le_pow_right (by omega) hk1))
 refine sx_enter Tryd.func93 rfl (n:=74) rfl (bq rfl) (args:= [.pointer (some ⟨g,0,none⟩),.slice A an ac,.int .i64 (ip:Int),.int .i64 ((width:Nat):Int)]) (cw_keep [(0,.pointer (some ⟨g,0,none⟩)),(1,.slice A an ac),(2,.int .i64 (ip:Int)),(3,.int .i64 ((width:Nat):Int))] ⟨rfl,rfl,rfl,rfl,trivial⟩ (cw_seq (cw_seq ?_)))
 by_cases h12:an≤12
 · 
  refine cw_region (mv 1 rfl (wl_cmp rfl rfl rfl false (lt_f (by omega)) (by decide) (mv 2 rfl (pu (v:= .int .i64 ((an:Nat):Int)) rfl (by kernel_rfl) (wl_cmp rfl rfl rfl true (cb_le_t (a:=an) (b:=12) rfl rfl (by omega)) (by decide) (pu (v:= .bool true) rfl (by kernel_rfl) (ne_ (cw_true rfl (sr (mv 3 rfl (wl_call rfl rfl (vs:= [.pointer (some ⟨g,0,none⟩),.slice A an ac,.int .i64 ((width:Nat):Int)]) (by kernel_rfl) (by decide) (rx_plain hS hgS hbl hbu hW hO hgl (Nat.le_trans hlb (UpdW.refl lb w).size) ha hal hun hkk hwd (by omega)) ?_)))))))))))
  rintro _ v1 ⟨rfl,A2,n3,c4,hb5,ho6,uw7,kp8⟩
  refine ret_intro ?_
  have hw1:UpdW lb w v1:=(UpdW.refl lb w).then uw7
  have kk9:=(Kept.refl w OA).next kp8 (UpdW.refl lb w).size
  refine ne_ (cw_ret (eo_thenR (eo_ret [] rfl trivial ?_)))
  exact⟨rfl,A2,_,_,hb5,ho6,hw1,kk9⟩
 · 
  refine cw_region (mv 1 rfl (wl_cmp rfl rfl rfl false (lt_f (by omega)) (by decide) (mv 2 rfl (pu (v:= .int .i64 ((an:Nat):Int)) rfl (by kernel_rfl) (wl_cmp rfl rfl rfl false (cb_le_f (a:=an) (b:=12) rfl rfl (by omega)) (by decide) (pu (v:= .bool false) rfl (by kernel_rfl) (ne_ (cw_false rfl (cw_skip (eo_then (cw_seq (cw_seq ?_))))))))))))
  by_cases hlt:m<unit^2^ip
  · 
   refine cw_region (mv 2 rfl (pf g 0 rfl (by kernel_rfl) (pf g 3 rfl (by kernel_rfl) (wl_load rfl rfl (load_cell (fun _=>by kernel_rfl) hW rfl) (by decide) (mv 1 rfl ?_)))))
   obtain⟨pp,BA,bn,bc,hpp,hcp,hbn,hbl8,hbo⟩:=hP.at (i:=ip) (by omega)
   have hpos:0<unit^2^ip:=Nat.pow_pos (by rw [hun];exact Nat.pow_pos (by omega))
   refine wl_idx rfl rfl rfl un_wl sz_wl ip rfl (by omega) pp hpp (by decide) (wl_load rfl rfl (load_cell1 ag_wl hcp) (by decide) (wl_call rfl rfl (vs:= [.slice A an ac,.slice BA bn bc]) (by kernel_rfl) (by decide) (rx_Cmp ha (by omega) hbo.wi (by omega)) ?_))
   rintro _ v10 ⟨xr12,rfl,r12,e11⟩
   refine ret_intro ?_
   have hw1:UpdW lb w v10:=(UpdW.refl lb w).trans e11
   have hx1:Ext w v10:=(Ext.refl w).trans e11
   obtain rfl:=r12
   refine wl_cmp rfl rfl rfl true (cmp3_ltT hlt) (by decide) (ne_ (cw_true rfl (sr (mv 3 rfl (wl_ar rfl rfl rfl ((ip:Int)-1) (ar_i64s rfl (by omega) (by omega)) (by decide) (mv 1 rfl (wl_call rfl rfl (vs:= [.pointer (some ⟨g,0,none⟩),.slice A an ac,.int .i64 ((ip:Int)-1),.int .i64 ((width:Nat):Int)]) (by kernel_rfl) (by decide) (ih rfl (hS.ext e11) hgS hbl hbu (hW.ext e11) (hO.ext e11) hgl (Nat.le_trans hlb hw1.size) (ha.ext e11) hal hun hkk (by omega) (by omega) (hP.ext e11) (by omega) hpn) ?_)))))))
   rintro _ v13 ⟨rfl,A14,n15,c16,hb17,ho18,uw19,kp20⟩
   refine ret_intro ?_
   have hw2:UpdW lb w v13:=hw1.then uw19
   have kk21:=(Kept.refl w OA).next kp20 hw1.size
   refine ne_ (cw_ret (eo_thenR (eo_ret [] rfl trivial ?_)))
   exact⟨rfl,A14,_,_,hb17,ho18,hw2,kk21⟩
  · 
   have hge:unit^2^ip≤m:=by omega
   have hbits:=pow_le_bits hu2 hge hml
   have hip28:=ip_small hbits (by omega)
   have hlow:k*2^ip≤64*268435456:=Nat.mul_le_mul hkk.le64 (by omega)
   have hge2:(base^k)^2^ip≤m:=hun▸hge
   have hp2:0<(base^k)^2^ip:=Nat.pow_pos (Nat.pow_pos (by omega))
   have hq1:(wd (m/unit^2^ip)).length≤4194304:=Nat.le_trans (len_wd_mono (Nat.div_le_self _ _)) hml
   have hr1:(wd (m%unit^2^ip)).length≤4194304:=Nat.le_trans (len_wd_mono (Nat.mod_le _ _)) hml
   have hrl:(db base (m%unit^2^ip)).length≤k*2^ip:=len_db_le hbl (by rw [Nat.pow_mul,←hun];exact Nat.mod_lt _ (hun▸hp2))
   have htl:=two_len (width:=width) hbl hge2 hp2
   rw [←hun] at htl
   refine cw_region (mv 2 rfl (pf g 0 rfl (by kernel_rfl) (pf g 3 rfl (by kernel_rfl) (wl_load rfl rfl (load_cell (fun _=>by kernel_rfl) hW rfl) (by decide) (mv 1 rfl ?_)))))
   obtain⟨pp,BA,bn,bc,hpp,hcp,hbn,hbl8,hbo⟩:=hP.at (i:=ip) (by omega)
   have hpos:0<unit^2^ip:=Nat.pow_pos (by rw [hun];exact Nat.pow_pos (by omega))
   refine wl_idx rfl rfl rfl un_wl sz_wl ip rfl (by omega) pp hpp (by decide) (wl_load rfl rfl (load_cell1 ag_wl hcp) (by decide) (wl_call rfl rfl (vs:= [.slice A an ac,.slice BA bn bc]) (by kernel_rfl) (by decide) (rx_Cmp ha (by omega) hbo.wi (by omega)) ?_))
   rintro _ v22 ⟨xr24,rfl,r24,e23⟩
   refine ret_intro ?_
   have hw1:UpdW lb w v22:=(UpdW.refl lb w).trans e23
   have hx1:Ext w v22:=(Ext.refl w).trans e23
   obtain rfl:=r24
   refine wl_cmp rfl rfl rfl false (cmp3_ltF (by omega)) (by decide) (ne_ (cw_false rfl (cw_skip (eo_then (sr (mv 2 rfl (pf g 0 rfl (by kernel_rfl) (pf g 3 rfl (by kernel_rfl) (wl_load rfl rfl (load_cell (fun _=>by kernel_rfl) (hW.ext e23) rfl) (by decide) (mv 1 rfl ?_))))))))))
   obtain⟨pp,BA,bn,bc,hpp,hcp,hbn,hbl8,hbo⟩:=(hP.ext e23).at (i:=ip) (by omega)
   have hpos:0<unit^2^ip:=Nat.pow_pos (by rw [hun];exact Nat.pow_pos (by omega))
   refine wl_idx rfl rfl rfl un_wl sz_wl ip rfl (by omega) pp hpp (by decide) (wl_load rfl rfl (load_cell1 ag_wl hcp) (by decide) (wl_call rfl rfl (vs:= [.slice A an ac,.slice BA bn bc]) (by kernel_rfl) (by decide) (rx_DivMod (Nat.zero_le _) (ha.ext e23) (by omega) hbo.wi (by omega) (by omega)) ?_))
   rintro _ v25 ⟨xr27,rfl,r27,e26⟩
   refine ret_intro ?_
   have hw2:UpdW lb w v25:=hw1.trans e26
   have hx2:Ext w v25:=hx1.trans e26
   obtain⟨_,_,_,rfl,⟨A29,n29,c29,rfl,j29,o29⟩,⟨A30,n30,c30,rfl,j30,o30⟩,rfl⟩:=r27
   refine mv 1 rfl (pu (v:= .slice A29 n29 c29) rfl (by kernel_rfl) (pu (v:= .slice A30 n30 c30) rfl (by kernel_rfl) (pu (v:= .int .i64 0) rfl (by kernel_rfl) (mv 3 rfl (ne_ (sr (mv 1 rfl (pf g 0 rfl (by kernel_rfl) (pf g 1 rfl (by kernel_rfl) (wl_load rfl rfl (load_cell (fun _=>by kernel_rfl) (hW.ext (e23.trans e26)) rfl) (by decide) (mv 1 rfl (wl_pureE rfl rfl (v:= .int .u64 (IntKind.u64.wrap ((ip:Nat):Int))) (v':= .int .u64 ((ip:Nat):Int)) (by decide) (by kernel_rfl) (cv_u64 (by omega)) (wl_op rfl rfl rfl (r:= .int .i64 ((k*2^ip:Nat):Int)) rfl (fun w=>i64_shl (x:=k) (s:=ip) (by omega) (by omega) _ _ w) (by decide) ?_)))))))))))))
   refine mv 1 rfl (ne_ (sr (mv 3 rfl (wl_ar rfl rfl rfl ((ip:Int)-1) (ar_i64s rfl (by omega) (by omega)) (by decide) (mv 2 rfl (wl_ar rfl rfl rfl (((width:Nat):Int)-((k*2^ip:Nat):Int)) (ar_i64s rfl (by omega) (by omega)) (by decide) (wl_mm rfl rfl rfl (((width-k*2^ip:Nat):Int)) (by omega) (by decide) (wl_call rfl rfl (vs:= [.pointer (some ⟨g,0,none⟩),.slice A29 n29 c29,.int .i64 ((ip:Int)-1),.int .i64 ((width-k*2^ip:Nat):Int)]) (by kernel_rfl) (by decide) (ih rfl (hS.ext (e23.trans e26)) hgS hbl hbu (hW.ext (e23.trans e26)) (hO.ext (e23.trans e26)) hgl (Nat.le_trans hlb hw2.size) o29.wi (by rw [j29];exact hq1) hun hkk (by omega) (by omega) (hP.ext (e23.trans e26)) (by omega) hpn) ?_))))))))
   rintro _ v31 ⟨rfl,A32,n33,c34,hb35,ho36,uw37,kp38⟩
   refine ret_intro ?_
   have hw3:UpdW lb w v31:=hw2.then uw37
   have kk39:=(Kept.refl w OA).next kp38 hw2.size
   refine ne_ (cw_region (mv 3 rfl (wl_ar rfl rfl rfl ((ip:Int)-1) (ar_i64s rfl (by omega) (by omega)) (by decide) (mv 1 rfl (wl_call rfl rfl (vs:= [.pointer (some ⟨g,0,none⟩),.slice A30 n30 c30,.int .i64 ((ip:Int)-1),.int .i64 ((k*2^ip:Nat):Int)]) (by kernel_rfl) (by decide) (ih rfl (uw37.signs (hS.ext (e23.trans e26)) hgS) hgS hbl hbu hb35 ho36 hgl (Nat.le_trans hlb hw3.size) (uw37.own o30 (by decide) (by decide)).wi (by rw [j30];exact hr1) hun hkk (by omega) (by rw [own_len ho36,List.length_append,txt_len,len_padTo,←own_len hO];omega) ((hP.ext (e23.trans e26)).updW uw37) (by omega) hpn) ?_)))))
   rintro _ v40 ⟨rfl,A41,n42,c43,hb44,ho45,uw46,kp47⟩
   refine ret_intro ?_
   have hw4:UpdW lb w v40:=hw3.then uw46
   have kk48:=kk39.next kp47 hw3.size
   refine wl_nil (eo_end [] rfl trivial ?_)
   exact⟨rfl,A41,_,_,hb44,(by rw [←txt_two (ip:=ip) (width:=width) hbl hge2 hp2,←hun,←List.append_assoc];exact ho45),hw4,kk48⟩
theorem rx_halves:∀ip,HalvesOk ip
 | 0=>halves_zero
 | ip+1=>halves_step (rx_halves ip)
structure Rune (bs:List Nat) (p r z:Nat):Prop where
 le:r≤2147483647
 low:bs.getD p 0<128→r=bs.getD p 0∧z=1
 high:128≤bs.getD p 0→128≤r
theorem Rune.dv {bs:List Nat}{p r z:Nat}(h:Rune bs p r z):dv r=dv (bs.getD p 0):=by
 by_cases h1:bs.getD p 0<128
 ·rw [(h.low h1).1]
 ·rw [dv_high (h.high (by omega)),dv_high (by omega)]
theorem Rune.one {bs:List Nat}{p r z:Nat}(h:Rune bs p r z) (hd:Go.Proofs.YtipklngcpmkfhaaDoor.dv r<36):z=1∧r=bs.getD p 0∧r<128:=by
 by_cases h1:bs.getD p 0<128
 ·exact⟨(h.low h1).2,(h.low h1).1,by rw [(h.low h1).1];exact h1⟩
 ·rw [dv_high (h.high (by omega))] at hd;omega
theorem rune_mk {bs:List Nat}(hb:∀b,b∈bs→b<256){p:Nat}(hp:p<bs.length):Rune bs p (Utf8.decode (strB bs) p).1 (Utf8.decode (strB bs) p).2:=by
 refine⟨decode_le _ _,fun h=>by rw [decode_low hb hp h];exact⟨rfl,rfl⟩,fun h=>?_⟩
 have hs:p<(strB bs).size:=by rw [strB_size];exact hp
 exact (decode_high (strB bs) p hs (by rw [strB_get hb hp hs];exact h)).1
section
variable {P:Program}{Q:Exit→Act→World→Prop}{n:Nat}{l:Fr}{w:World}{ops:Array Oper}{rest:List Oper}{d:Nat}{ty:TypeId}{pos:String}{af:Array Edge}{gd:Option (Nat×Bool)}
theorem wl_nextR {x:Operand}{g p:Nat}{bs:List Nat}(hw:guardB ops l gd=some true) (hx:evo l x=some (.pointer (some ⟨g,0,none⟩))) (hb:∀b,b∈bs→b<256) (h:It w g bs p) (hp:p<bs.length) (hn:d<n)
  (k:∀w' r z,Rune bs p r z→It w' g bs (p+z)→Upd g w w'→wl P ops Q n rest ((d,.tuple #[.bool true,.int .i64 (p:Int),.int .i32 (r:Int)])::l) w'):
  wl P ops Q n (⟨some d,.next x true,ty,pos,af,gd⟩::rest) l w:=
 wl_next hw hx h hp hn fun w' h1 h2=>k w' _ _ (rune_mk hb hp) h1 h2
theorem wl_make80 {x y:Operand}{k:Nat}{t e:TypeId}{z:Value}(hw:guardB ops l gd=some true) (hx:evo l x=some (.int .i64 0)) (hy:evo l y=some (.int .i64 (k:Int))) (ht:P.underlying t=some (.slice e))
  (hinfo:(P.info? e).map (fun i=>(i.zero,i.size,i.bytes))=some (some z,1,1)) (_hz:z.cells= #[z]) (hk:k≤1099511627776) (hd:d<n)
  (h:∀g w',Own w' w.heap.size e 1 (some ⟨g,0,none⟩) 0 k []→Ext w w'→wl P ops Q n rest ((d,.slice (some ⟨g,0,none⟩) 0 k)::l) w'):wl P ops Q n (⟨some d,.makeSlice t x y,ty,pos,af,gd⟩::rest) l w:=by
 obtain⟨i,hi,hz0,hz1,hz2⟩:=info_parts hinfo
 have hr:=run_make (P:=P) w t e i _ ht hi hz0 .i64 .i64 0 (k:Int) (by omega) (by omega) (by rw [hz2];omega) (by omega)
 rw [Int.toNat_natCast,show (0:Int).toNat=0 from rfl,hz1] at hr
 obtain⟨cs,hcs,hcl⟩:∃cs:List Value,madeCells z.cells (k*1)=cs.toArray∧cs.length=k*1:=⟨(madeCells z.cells (k*1)).toList,Array.toArray_toList.symm,by rw [Array.length_toList,size_madeCells]⟩
 rw [hcs] at hr
 refine wl_val hw hd (fun a' ha=>?_) (h _ (w.alloc (.cells cs.toArray e)) (Or.inr ⟨w.heap.size,cs,rfl,Nat.le_refl _,Bk.new _ _ _,Nat.zero_le _,by rw [len_maxLen];omega,hcl,rfl⟩) ((Ext.refl w).alloc _))
 have e':(Instr.makeSlice t (a'.eval x) (a'.eval y)).run P w= .ok (.slice (some ⟨w.heap.size,0,none⟩) 0 k) (w.alloc (.cells cs.toArray e)):=by rw [ha.ev hx,ha.ev hy];exact hr
 show ((Instr.makeSlice t (a'.eval x) (a'.eval y)>>=fun r=>pure (Next.value r):Sem Next)).run P w=_
 rw [Sem.run_bind,e'];rfl
end
theorem cv_u8 {x:Nat}(h:x≤255):Value.int .u8 (IntKind.u8.wrap (x:Int))= .int .u8 (x:Int):=by rw [IntWalk.u8_in _ ⟨by omega,by omega⟩]
theorem ai32_sub {A B:Int}{a b:Nat}(ha:A=(a:Int)) (hb:B=(b:Int)) (h:b≤a) (h2:a≤2147483647):arB .sub .i32 A B=some ((a-b:Nat):Int):=by
 subst ha hb;simp only [arB,Option.some.injEq];rw [show (a:Int)-(b:Int)=((a-b:Nat):Int) by omega,IntWalk.i32_in _ ⟨by omega,by omega⟩]
structure Rb (b:Nat) (w:World) (A:Option Addr) (n c:Nat) (xs:List Nat):Prop where
 rv:Rv w 1 A n c (xs.map B8)
 wf:∀x,x∈xs→x<b
theorem Rb.ext {b:Nat}{w w':World}{A:Option Addr}{n c:Nat}{xs:List Nat}(h:Rb b w A n c xs) (e:Ext w w'):Rb b w' A n c xs:=⟨h.rv.ext e,h.wf⟩
theorem Rb.len {b:Nat}{w:World}{A:Option Addr}{n c:Nat}{xs:List Nat}(h:Rb b w A n c xs):xs.length=n:=by simpa using h.rv.len
theorem Rb.dig {b:Nat}{w:World}{A:Option Addr}{n c i:Nat}{xs:List Nat}(h:Rb b w A n c xs) (hi:i<n):xs.getD i 0<b:=by
 have hl:=h.len
 refine h.wf _ ?_
 rw [List.getD_eq_getElem?_getD,List.getElem?_eq_getElem (by omega)]
 exact List.getElem_mem (by omega)
theorem Rb.at {b:Nat}(_:True){w:World}{A:Option Addr}{n c:Nat}{xs:List Nat}(h:Rb b w A n c xs){i:Nat}(hi:i<n):
  ∃p,A.map (·.add (i*1))=some p∧w.cell? p=some (.int .u8 ((xs.getD i 0:Nat):Int))∧xs.getD i 0<b:=by
 have hl:=h.len
 obtain⟨a,rfl,hc⟩:=h.rv.get i (by omega)
 refine⟨a.add i,by rw [Nat.mul_one];rfl,?_,h.dig hi⟩
 rw [hc,List.getD_eq_getElem?_getD,List.getElem?_map,List.getElem?_eq_getElem (by omega),List.getD_eq_getElem?_getD,List.getElem?_eq_getElem (by omega)]
 rfl
theorem Rb.take {b:Nat}{w:World}{A:Option Addr}{n c k:Nat}{xs:List Nat}(h:Rb b w A n c xs) (hk:k≤n):Rb b w A k c (xs.take k):=by
 have hl:=h.len
 have hle:=h.rv.le
 refine⟨⟨by rw [List.length_map,List.length_take,hl];omega,by omega,h.rv.max,fun i hi=>?_,h.rv.blk⟩,fun x hx=>h.wf x (List.mem_of_mem_take hx)⟩
 obtain⟨a,ha,hc⟩:=h.rv.get i (by omega)
 refine⟨a,ha,hc.trans ?_⟩
 rw [List.map_take,List.getD_eq_getElem?_getD,List.getD_eq_getElem?_getD,List.getElem?_take,if_pos (by omega)]
theorem Rb.drop {b:Nat}{w:World}{A:Option Addr}{n c k:Nat}{xs:List Nat}(h:Rb b w A n c xs) (hk:k≤n):Rb b w (if c=k then A else A.map (·.add (k*1))) (n-k) (c-k) (xs.drop k):=by
 have hle:=h.rv.le
 have hl:=h.len
 refine⟨⟨by rw [List.length_map,List.length_drop,hl,Nat.mul_one],by omega,by have:=h.rv.max;omega,fun i hi=>?_,fun a ha hc=>?_⟩,fun x hx=>h.wf x (List.mem_of_mem_drop hx)⟩
 ·rw [if_neg (by omega)]
  obtain⟨a,rfl,hc⟩:=h.rv.get (k+i) (by omega)
  refine⟨a.add (k*1),rfl,?_⟩
  rw [Nat.mul_one,Addr.add_add,hc]
  simp [List.getD_eq_getElem?_getD,List.getElem?_map,List.getElem?_drop]
 ·rw [if_neg (by omega)] at ha
  cases A with
  | none=>cases ha
  | some p=>
   cases ha
   rw [block_of_add]
   exact h.rv.blk p rfl (by omega)
theorem Own.rb {w:World}{lb b n c:Nat}{A:Option Addr}{xs:List Nat}(h:Own w lb 5 1 A n c (xs.map B8)) (hd:∀x,x∈xs→x<b):Rb b w A n c xs:=⟨h.rv,hd⟩
theorem slice_from (A:Option Addr) (n c k:Nat):Value.slice (if c=k then A else A.map (·.add (k*1))) (n-k) (c-k)= .slice (if c=k then A else A.map (·.add (k*1))) (n-k) (c-k):=rfl
section
variable {w:World}{b:Nat}
theorem rx_MulW (hb:b≤w.heap.size){A B:Option Addr}{n c m d x y:Nat}(hx:Wi w A n c x) (hy:Wi w B m d y) (hN:n+m≤274877906944):Calls Tryd.prog 53 #[.slice A n c,.slice B m d] w (Gv w (WR b (x*y))):=by
 obtain⟨xs,h1,rfl⟩:=hx;obtain⟨ys,h2,rfl⟩:=hy
 exact (mulnat_Mul h1 h2 hN).mono (gw hb)
theorem mulnat_MulAdd {A B C:Option Addr}{n cap m cap' k c:Nat}{xs ys zs:List Nat}(hx:Rd w A n cap xs) (hy:Rd w B m cap' ys) (hz:Rd w C k c zs) (hN:n+m≤274877906944) (hk:k≤1099511627775):
  Calls Tryd.prog 111 #[.slice A n cap,.slice B m cap',.slice C k c] w (RetW w (nv xs*nv ys+nv zs)):=by
 go_enter Tryd.func111,Tryd.ntmps111
 go_wp2_with fail
 refine (mul_product hx hy hN).mono ?_
 rintro e w1 ⟨k1,hk1,g1,z1,rfl,hg1,hb1,hw1,hl1,hv1,hx1⟩
 have hk1b:k1≤n+m:=by
  rw [hk1.out]
  have h1:=len_wd_nv hx.wf
  have h2:=len_wd_nv hy.wf
  rw [hx.len] at h1
  rw [hy.len] at h2
  omega
 go_wp2_with fail
 refine (nat_Add (NewP.rd hb1 hw1 hl1.out (by omega)) (by omega) (hz.ext hx1) hk).mono ?_
 rintro e w2 ⟨A2,n2,c2,rfl,hn2,hr2,ho2,hx2⟩
 go_wp2_with fail
 go_ret
 rw [hv1.out] at hn2 hr2 ho2
 exact⟨A2,n2,c2,rfl,hn2,hr2,ho2.mono hx1.size,hx1.trans hx2⟩
theorem rx_MulAdd (hb:b≤w.heap.size){A B C:Option Addr}{an ac bn bc cn cc x y z:Nat}(hx:Wi w A an ac x) (hy:Wi w B bn bc y) (hz:Wi w C cn cc z) (hN:an+bn≤274877906944) (hcn:cn≤1099511627775):Calls Tryd.prog 111 #[.slice A an ac,.slice B bn bc,.slice C cn cc] w (Gv w (WR b (x*y+z))):=by
 obtain⟨xs,h1,rfl⟩:=hx;obtain⟨ys,h2,rfl⟩:=hy;obtain⟨zs,h3,rfl⟩:=hz
 exact (mulnat_MulAdd h1 h2 h3 hN hcn).mono (gw hb)
theorem rx_AddW (hb:b≤w.heap.size){A B:Option Addr}{n c m d x y:Nat}(hx:Wi w A n c x) (hl:n≤1099511627775) (hy:Wi w B m d y) (hl':m≤1099511627775):Calls Tryd.prog 78 #[.slice A n c,.slice B m d] w (Gv w (WR b (x+y))):=by
 obtain⟨xs,h1,rfl⟩:=hx;obtain⟨ys,h2,rfl⟩:=hy
 exact (nat_Add h1 hl h2 hl').mono (gw hb)
theorem rx_MulWord (hb:b≤w.heap.size){A:Option Addr}{n c x v:Nat}(hx:Wi w A n c x) (hl:n≤137438953472) (hv:v≤18446744073709551615):Calls Tryd.prog 113 #[.slice A n c,.int .u64 (v:Int)] w (Gv w (WR b (x*v))):=by
 obtain⟨xs,h1,rfl⟩:=hx
 exact (mulnat_Word h1 hl hv).mono (gw hb)
theorem rx_LeastW (hb:b≤w.heap.size){A:Option Addr}{n c m:Nat}(hx:Wi w A n c m) (hl:n≤1099511627776):Calls Tryd.prog 46 #[.slice A n c] w (Gv w (WR b m)):=(g_nat_LeastW hx hl).mono (Gv.imp (WR.imp hb))
end
theorem len_vald {b:Nat}(hb:1≤b) (hb2:b≤36){ds:List Nat}(h:∀d,d∈ds→d<b):(wd (vald b ds)).length≤ds.length:=
 len_wd_le (Nat.lt_of_lt_of_le (vald_lt hb ds h) (Nat.pow_le_pow_left (by rw [WB_def];omega) _))
theorem len_pow36 {b n:Nat}(hb2:b≤36):(wd (b^n)).length≤n+1:=
 len_wd_le (Nat.lt_of_le_of_lt (Nat.pow_le_pow_left (show b≤WB by rw [WB_def];omega) n) (Nat.pow_lt_pow_right (show 1<WB by rw [WB_def];omega) (Nat.lt_succ_self n)))
theorem pw_half {p b n:Nat}:p*(b*b)^(n/2)*b^(n%2)=p*b^n:=by
 rw [←Nat.pow_two,←Nat.pow_mul,Nat.mul_assoc,←Nat.pow_add]
 congr 2
 omega
theorem pw_odd {p b n:Nat}(h:n%2=1):p*b*(b*b)^(n/2)=p*b^n:=by
 have:=pw_half (p:=p) (b:=b) (n:=n)
 rw [h,Nat.pow_one] at this
 rw [←this,Nat.mul_assoc,Nat.mul_assoc,Nat.mul_comm b]
theorem pw_even {p b n:Nat}(h:¬n%2=1):p*(b*b)^(n/2)=p*b^n:=by
 have:=pw_half (p:=p) (b:=b) (n:=n)
 rw [show n%2=0 by omega,Nat.pow_zero,Nat.mul_one] at this
 exact this
theorem pw_last {p b c n:Nat}(h:n=1):p*b*c^(n/2)=p*b^n:=by subst h;simp
theorem pw_b {p b n X:Nat}(h:p*b^n=X) (hp:1≤p) (hb:1≤b) (hn:0<n):b≤X:=by
 rw [←h]
 have h1:b^1≤b^n:=Nat.pow_le_pow_right hb hn
 rw [Nat.pow_one] at h1
 exact Nat.le_trans h1 (Nat.le_mul_of_pos_left _ hp)
theorem pw_p {p b n X:Nat}(h:p*b^n=X) (hb:1≤b):p≤X:=by
 rw [←h];exact Nat.le_mul_of_pos_right _ (Nat.pow_pos hb)
theorem vald_piece {b:Nat}{pre xs:List Nat}{k:Nat}(hk:k≤xs.length):vald b (pre++xs.take k)=vald b pre*b^k+vald b (xs.take k):=by
 rw [vald_append,List.length_take,Nat.min_eq_left hk]
theorem take_get {xs:List Nat}{i n:Nat}(h:i<n) (hn:n≤xs.length):xs.take (i+1)=xs.take i++ [(xs.take n).getD i 0]:=by
 rw [List.take_add_one,List.getD_eq_getElem?_getD,List.getElem?_take,if_pos h,List.getElem?_eq_getElem (by omega)]
 rfl
set_option maxHeartbeats 4000000 in
theorem rx_value {w:World}{c:Nat}(hc:c≤2147483647):
    Calls Tryd.prog 101 #[.int .i32 ((c:Nat):Int)] w (Gv w (Is (.int .i64 ((dv c:Nat):Int)))):=by
 refine sx_enter Tryd.func101 rfl (n:=35) rfl (bq rfl) (args:= [.int .i32 ((c:Nat):Int)]) (cw_keep [(0,.int .i32 ((c:Nat):Int))] ⟨rfl,trivial⟩ (sr (mv 1 rfl (ne_ (cw_seq (cw_block (cw_seq ?_)))))))
 by_cases ha48:c≥48
 · 
  by_cases hb57:c≤57
  · 
   refine cw_region (mv 1 rfl (wl_cmp rfl rfl rfl true (cb_ge_t (a:=c) (b:=48) rfl rfl (by omega)) (by decide) (mv 2 rfl (wl_cmp rfl rfl rfl true (cb_le_t (a:=c) (b:=57) rfl rfl (by omega)) (by decide) (pu (v:= .bool true) rfl (by kernel_rfl) (mv 1 rfl (ne_ (cw_true rfl (sr (mv 1 rfl (wl_ar rfl rfl rfl ((c-48:Nat):Int) (ai32_sub (a:=c) (b:=48) rfl rfl (by omega) (by omega)) (by decide) (wl_pureE rfl rfl (v:= .int .i64 (IntKind.i64.wrap ((c-48:Nat):Int))) (v':= .int .i64 ((c-48:Nat):Int)) (by decide) (by kernel_rfl) (cv_i64 (by first | omega | exact hle64)) (mv 1 rfl ?_)))))))))))))
   refine ne_ (cw_ret (eo_block_ret (eo_thenR (eo_ret [.int .i64 ((c-48:Nat):Int)] rfl ⟨rfl,trivial⟩ ?_))))
   have hv:c-48=dv c:=by unfold dv;(repeat' split) <;> omega
   exact⟨_,rfl,(show Value.int .i64 ((c-48:Nat):Int)=_ by rw [hv]),(Ext.refl w)⟩
  · 
   refine cw_region (mv 1 rfl (wl_cmp rfl rfl rfl true (cb_ge_t (a:=c) (b:=48) rfl rfl (by omega)) (by decide) (mv 2 rfl (wl_cmp rfl rfl rfl false (cb_le_f (a:=c) (b:=57) rfl rfl (by omega)) (by decide) (pu (v:= .bool false) rfl (by kernel_rfl) (mv 1 rfl (ne_ (cw_false rfl (cw_seq ?_)))))))))
   by_cases ha97:c≥97
   · 
    by_cases hb122:c≤122
    · 
     refine cw_region (mv 1 rfl (wl_cmp rfl rfl rfl true (cb_ge_t (a:=c) (b:=97) rfl rfl (by omega)) (by decide) (mv 2 rfl (wl_cmp rfl rfl rfl true (cb_le_t (a:=c) (b:=122) rfl rfl (by omega)) (by decide) (pu (v:= .bool true) rfl (by kernel_rfl) (mv 1 rfl (ne_ (cw_true rfl (sr (mv 1 rfl (wl_ar rfl rfl rfl ((c-97:Nat):Int) (ai32_sub (a:=c) (b:=97) rfl rfl (by omega) (by omega)) (by decide) (wl_pureE rfl rfl (v:= .int .i64 (IntKind.i64.wrap ((c-97:Nat):Int))) (v':= .int .i64 ((c-97:Nat):Int)) (by decide) (by kernel_rfl) (cv_i64 (by first | omega | exact hle64)) (wl_ar rfl rfl rfl (((c-97)+10:Nat):Int) (ai_add (a:=c-97) (b:=10) rfl rfl (by omega)) (by decide) ?_)))))))))))))
     refine mv 1 rfl (ne_ (cw_ret (eo_block_ret (eo_thenR (eo_ret [.int .i64 (((c-97)+10:Nat):Int)] rfl ⟨rfl,trivial⟩ ?_)))))
     have hv:(c-97)+10=dv c:=by unfold dv;(repeat' split) <;> omega
     exact⟨_,rfl,(show Value.int .i64 (((c-97)+10:Nat):Int)=_ by rw [hv]),(Ext.refl w)⟩
    · 
     refine cw_region (mv 1 rfl (wl_cmp rfl rfl rfl true (cb_ge_t (a:=c) (b:=97) rfl rfl (by omega)) (by decide) (mv 2 rfl (wl_cmp rfl rfl rfl false (cb_le_f (a:=c) (b:=122) rfl rfl (by omega)) (by decide) (pu (v:= .bool false) rfl (by kernel_rfl) (mv 1 rfl (ne_ (cw_false rfl (cw_seq ?_)))))))))
     by_cases ha65:c≥65
     · 
      by_cases hb90:c≤90
      · 
       refine cw_region (mv 1 rfl (wl_cmp rfl rfl rfl true (cb_ge_t (a:=c) (b:=65) rfl rfl (by omega)) (by decide) (mv 2 rfl (wl_cmp rfl rfl rfl true (cb_le_t (a:=c) (b:=90) rfl rfl (by omega)) (by decide) (pu (v:= .bool true) rfl (by kernel_rfl) (mv 1 rfl (ne_ (cw_true rfl (sr (mv 1 rfl (wl_ar rfl rfl rfl ((c-65:Nat):Int) (ai32_sub (a:=c) (b:=65) rfl rfl (by omega) (by omega)) (by decide) (wl_pureE rfl rfl (v:= .int .i64 (IntKind.i64.wrap ((c-65:Nat):Int))) (v':= .int .i64 ((c-65:Nat):Int)) (by decide) (by kernel_rfl) (cv_i64 (by first | omega | exact hle64)) (wl_ar rfl rfl rfl (((c-65)+10:Nat):Int) (ai_add (a:=c-65) (b:=10) rfl rfl (by omega)) (by decide) ?_)))))))))))))
       refine mv 1 rfl (ne_ (cw_ret (eo_block_ret (eo_thenR (eo_ret [.int .i64 (((c-65)+10:Nat):Int)] rfl ⟨rfl,trivial⟩ ?_)))))
       have hv:(c-65)+10=dv c:=by unfold dv;(repeat' split) <;> omega
       exact⟨_,rfl,(show Value.int .i64 (((c-65)+10:Nat):Int)=_ by rw [hv]),(Ext.refl w)⟩
      · 
       refine cw_region (mv 1 rfl (wl_cmp rfl rfl rfl true (cb_ge_t (a:=c) (b:=65) rfl rfl (by omega)) (by decide) (mv 2 rfl (wl_cmp rfl rfl rfl false (cb_le_f (a:=c) (b:=90) rfl rfl (by omega)) (by decide) (pu (v:= .bool false) rfl (by kernel_rfl) (mv 1 rfl (ne_ (cw_false rfl (cw_skip (eo_block_normal (eo_then (sr (mv 1 rfl ?_)))))))))))))
       refine ne_ (cw_ret (eo_ret [.int .i64 36] rfl ⟨rfl,trivial⟩ ?_))
       have hv:36=dv c:=by unfold dv;(repeat' split) <;> omega
       exact⟨_,rfl,(show Value.int .i64 ((36:Nat):Int)=_ by rw [hv]),(Ext.refl w)⟩
     · 
      refine cw_region (mv 1 rfl (wl_cmp rfl rfl rfl false (cb_ge_f (a:=c) (b:=65) rfl rfl (by omega)) (by decide) (mv 3 rfl (pu (v:= .bool false) rfl (by kernel_rfl) (mv 1 rfl (ne_ (cw_false rfl (cw_skip (eo_block_normal (eo_then (sr (mv 1 rfl (wl_nil ?_)))))))))))))
      refine eo_then (cw_ret (eo_ret [.int .i64 36] rfl ⟨rfl,trivial⟩ ?_))
      have hv:36=dv c:=by unfold dv;(repeat' split) <;> omega
      exact⟨_,rfl,(show Value.int .i64 ((36:Nat):Int)=_ by rw [hv]),(Ext.refl w)⟩
   · 
    refine cw_region (mv 1 rfl (wl_cmp rfl rfl rfl false (cb_ge_f (a:=c) (b:=97) rfl rfl (by omega)) (by decide) (mv 3 rfl (pu (v:= .bool false) rfl (by kernel_rfl) (mv 1 rfl (ne_ (cw_false rfl (cw_seq ?_))))))))
    by_cases ha65:c≥65
    · 
     by_cases hb90:c≤90
     · 
      refine cw_region (mv 1 rfl (wl_cmp rfl rfl rfl true (cb_ge_t (a:=c) (b:=65) rfl rfl (by omega)) (by decide) (mv 2 rfl (wl_cmp rfl rfl rfl true (cb_le_t (a:=c) (b:=90) rfl rfl (by omega)) (by decide) (pu (v:= .bool true) rfl (by kernel_rfl) (mv 1 rfl (ne_ (cw_true rfl (sr (mv 1 rfl (wl_ar rfl rfl rfl ((c-65:Nat):Int) (ai32_sub (a:=c) (b:=65) rfl rfl (by omega) (by omega)) (by decide) (wl_pureE rfl rfl (v:= .int .i64 (IntKind.i64.wrap ((c-65:Nat):Int))) (v':= .int .i64 ((c-65:Nat):Int)) (by decide) (by kernel_rfl) (cv_i64 (by first | omega | exact hle64)) (wl_ar rfl rfl rfl (((c-65)+10:Nat):Int) (ai_add (a:=c-65) (b:=10) rfl rfl (by omega)) (by decide) ?_)))))))))))))
      refine mv 1 rfl (ne_ (cw_ret (eo_block_ret (eo_thenR (eo_ret [.int .i64 (((c-65)+10:Nat):Int)] rfl ⟨rfl,trivial⟩ ?_)))))
      have hv:(c-65)+10=dv c:=by unfold dv;(repeat' split) <;> omega
      exact⟨_,rfl,(show Value.int .i64 (((c-65)+10:Nat):Int)=_ by rw [hv]),(Ext.refl w)⟩
     · 
      refine cw_region (mv 1 rfl (wl_cmp rfl rfl rfl true (cb_ge_t (a:=c) (b:=65) rfl rfl (by omega)) (by decide) (mv 2 rfl (wl_cmp rfl rfl rfl false (cb_le_f (a:=c) (b:=90) rfl rfl (by omega)) (by decide) (pu (v:= .bool false) rfl (by kernel_rfl) (mv 1 rfl (ne_ (cw_false rfl (cw_skip (eo_block_normal (eo_then (sr (mv 1 rfl ?_)))))))))))))
      refine ne_ (cw_ret (eo_ret [.int .i64 36] rfl ⟨rfl,trivial⟩ ?_))
      have hv:36=dv c:=by unfold dv;(repeat' split) <;> omega
      exact⟨_,rfl,(show Value.int .i64 ((36:Nat):Int)=_ by rw [hv]),(Ext.refl w)⟩
    · 
     refine cw_region (mv 1 rfl (wl_cmp rfl rfl rfl false (cb_ge_f (a:=c) (b:=65) rfl rfl (by omega)) (by decide) (mv 3 rfl (pu (v:= .bool false) rfl (by kernel_rfl) (mv 1 rfl (ne_ (cw_false rfl (cw_skip (eo_block_normal (eo_then (sr (mv 1 rfl (wl_nil ?_)))))))))))))
     refine eo_then (cw_ret (eo_ret [.int .i64 36] rfl ⟨rfl,trivial⟩ ?_))
     have hv:36=dv c:=by unfold dv;(repeat' split) <;> omega
     exact⟨_,rfl,(show Value.int .i64 ((36:Nat):Int)=_ by rw [hv]),(Ext.refl w)⟩
 · 
  refine cw_region (mv 1 rfl (wl_cmp rfl rfl rfl false (cb_ge_f (a:=c) (b:=48) rfl rfl (by omega)) (by decide) (mv 3 rfl (pu (v:= .bool false) rfl (by kernel_rfl) (mv 1 rfl (ne_ (cw_false rfl (cw_seq ?_))))))))
  by_cases ha97:c≥97
  · 
   by_cases hb122:c≤122
   · 
    refine cw_region (mv 1 rfl (wl_cmp rfl rfl rfl true (cb_ge_t (a:=c) (b:=97) rfl rfl (by omega)) (by decide) (mv 2 rfl (wl_cmp rfl rfl rfl true (cb_le_t (a:=c) (b:=122) rfl rfl (by omega)) (by decide) (pu (v:= .bool true) rfl (by kernel_rfl) (mv 1 rfl (ne_ (cw_true rfl (sr (mv 1 rfl (wl_ar rfl rfl rfl ((c-97:Nat):Int) (ai32_sub (a:=c) (b:=97) rfl rfl (by omega) (by omega)) (by decide) (wl_pureE rfl rfl (v:= .int .i64 (IntKind.i64.wrap ((c-97:Nat):Int))) (v':= .int .i64 ((c-97:Nat):Int)) (by decide) (by kernel_rfl) (cv_i64 (by first | omega | exact hle64)) (wl_ar rfl rfl rfl (((c-97)+10:Nat):Int) (ai_add (a:=c-97) (b:=10) rfl rfl (by omega)) (by decide) ?_)))))))))))))
    refine mv 1 rfl (ne_ (cw_ret (eo_block_ret (eo_thenR (eo_ret [.int .i64 (((c-97)+10:Nat):Int)] rfl ⟨rfl,trivial⟩ ?_)))))
    have hv:(c-97)+10=dv c:=by unfold dv;(repeat' split) <;> omega
    exact⟨_,rfl,(show Value.int .i64 (((c-97)+10:Nat):Int)=_ by rw [hv]),(Ext.refl w)⟩
   · 
    refine cw_region (mv 1 rfl (wl_cmp rfl rfl rfl true (cb_ge_t (a:=c) (b:=97) rfl rfl (by omega)) (by decide) (mv 2 rfl (wl_cmp rfl rfl rfl false (cb_le_f (a:=c) (b:=122) rfl rfl (by omega)) (by decide) (pu (v:= .bool false) rfl (by kernel_rfl) (mv 1 rfl (ne_ (cw_false rfl (cw_seq ?_)))))))))
    by_cases ha65:c≥65
    · 
     by_cases hb90:c≤90
     · 
      refine cw_region (mv 1 rfl (wl_cmp rfl rfl rfl true (cb_ge_t (a:=c) (b:=65) rfl rfl (by omega)) (by decide) (mv 2 rfl (wl_cmp rfl rfl rfl true (cb_le_t (a:=c) (b:=90) rfl rfl (by omega)) (by decide) (pu (v:= .bool true) rfl (by kernel_rfl) (mv 1 rfl (ne_ (cw_true rfl (sr (mv 1 rfl (wl_ar rfl rfl rfl ((c-65:Nat):Int) (ai32_sub (a:=c) (b:=65) rfl rfl (by omega) (by omega)) (by decide) (wl_pureE rfl rfl (v:= .int .i64 (IntKind.i64.wrap ((c-65:Nat):Int))) (v':= .int .i64 ((c-65:Nat):Int)) (by decide) (by kernel_rfl) (cv_i64 (by first | omega | exact hle64)) (wl_ar rfl rfl rfl (((c-65)+10:Nat):Int) (ai_add (a:=c-65) (b:=10) rfl rfl (by omega)) (by decide) ?_)))))))))))))
      refine mv 1 rfl (ne_ (cw_ret (eo_block_ret (eo_thenR (eo_ret [.int .i64 (((c-65)+10:Nat):Int)] rfl ⟨rfl,trivial⟩ ?_)))))
      have hv:(c-65)+10=dv c:=by unfold dv;(repeat' split) <;> omega
      exact⟨_,rfl,(show Value.int .i64 (((c-65)+10:Nat):Int)=_ by rw [hv]),(Ext.refl w)⟩
     · 
      refine cw_region (mv 1 rfl (wl_cmp rfl rfl rfl true (cb_ge_t (a:=c) (b:=65) rfl rfl (by omega)) (by decide) (mv 2 rfl (wl_cmp rfl rfl rfl false (cb_le_f (a:=c) (b:=90) rfl rfl (by omega)) (by decide) (pu (v:= .bool false) rfl (by kernel_rfl) (mv 1 rfl (ne_ (cw_false rfl (cw_skip (eo_block_normal (eo_then (sr (mv 1 rfl ?_)))))))))))))
      refine ne_ (cw_ret (eo_ret [.int .i64 36] rfl ⟨rfl,trivial⟩ ?_))
      have hv:36=dv c:=by unfold dv;(repeat' split) <;> omega
      exact⟨_,rfl,(show Value.int .i64 ((36:Nat):Int)=_ by rw [hv]),(Ext.refl w)⟩
    · 
     refine cw_region (mv 1 rfl (wl_cmp rfl rfl rfl false (cb_ge_f (a:=c) (b:=65) rfl rfl (by omega)) (by decide) (mv 3 rfl (pu (v:= .bool false) rfl (by kernel_rfl) (mv 1 rfl (ne_ (cw_false rfl (cw_skip (eo_block_normal (eo_then (sr (mv 1 rfl (wl_nil ?_)))))))))))))
     refine eo_then (cw_ret (eo_ret [.int .i64 36] rfl ⟨rfl,trivial⟩ ?_))
     have hv:36=dv c:=by unfold dv;(repeat' split) <;> omega
     exact⟨_,rfl,(show Value.int .i64 ((36:Nat):Int)=_ by rw [hv]),(Ext.refl w)⟩
  · 
   refine cw_region (mv 1 rfl (wl_cmp rfl rfl rfl false (cb_ge_f (a:=c) (b:=97) rfl rfl (by omega)) (by decide) (mv 3 rfl (pu (v:= .bool false) rfl (by kernel_rfl) (mv 1 rfl (ne_ (cw_false rfl (cw_seq ?_))))))))
   by_cases ha65:c≥65
   · 
    by_cases hb90:c≤90
    · 
     refine cw_region (mv 1 rfl (wl_cmp rfl rfl rfl true (cb_ge_t (a:=c) (b:=65) rfl rfl (by omega)) (by decide) (mv 2 rfl (wl_cmp rfl rfl rfl true (cb_le_t (a:=c) (b:=90) rfl rfl (by omega)) (by decide) (pu (v:= .bool true) rfl (by kernel_rfl) (mv 1 rfl (ne_ (cw_true rfl (sr (mv 1 rfl (wl_ar rfl rfl rfl ((c-65:Nat):Int) (ai32_sub (a:=c) (b:=65) rfl rfl (by omega) (by omega)) (by decide) (wl_pureE rfl rfl (v:= .int .i64 (IntKind.i64.wrap ((c-65:Nat):Int))) (v':= .int .i64 ((c-65:Nat):Int)) (by decide) (by kernel_rfl) (cv_i64 (by first | omega | exact hle64)) (wl_ar rfl rfl rfl (((c-65)+10:Nat):Int) (ai_add (a:=c-65) (b:=10) rfl rfl (by omega)) (by decide) ?_)))))))))))))
     refine mv 1 rfl (ne_ (cw_ret (eo_block_ret (eo_thenR (eo_ret [.int .i64 (((c-65)+10:Nat):Int)] rfl ⟨rfl,trivial⟩ ?_)))))
     have hv:(c-65)+10=dv c:=by unfold dv;(repeat' split) <;> omega
     exact⟨_,rfl,(show Value.int .i64 (((c-65)+10:Nat):Int)=_ by rw [hv]),(Ext.refl w)⟩
    · 
     refine cw_region (mv 1 rfl (wl_cmp rfl rfl rfl true (cb_ge_t (a:=c) (b:=65) rfl rfl (by omega)) (by decide) (mv 2 rfl (wl_cmp rfl rfl rfl false (cb_le_f (a:=c) (b:=90) rfl rfl (by omega)) (by decide) (pu (v:= .bool false) rfl (by kernel_rfl) (mv 1 rfl (ne_ (cw_false rfl (cw_skip (eo_block_normal (eo_then (sr (mv 1 rfl ?_)))))))))))))
     refine ne_ (cw_ret (eo_ret [.int .i64 36] rfl ⟨rfl,trivial⟩ ?_))
     have hv:36=dv c:=by unfold dv;(repeat' split) <;> omega
     exact⟨_,rfl,(show Value.int .i64 ((36:Nat):Int)=_ by rw [hv]),(Ext.refl w)⟩
   · 
    refine cw_region (mv 1 rfl (wl_cmp rfl rfl rfl false (cb_ge_f (a:=c) (b:=65) rfl rfl (by omega)) (by decide) (mv 3 rfl (pu (v:= .bool false) rfl (by kernel_rfl) (mv 1 rfl (ne_ (cw_false rfl (cw_skip (eo_block_normal (eo_then (sr (mv 1 rfl (wl_nil ?_)))))))))))))
    refine eo_then (cw_ret (eo_ret [.int .i64 36] rfl ⟨rfl,trivial⟩ ?_))
    have hv:36=dv c:=by unfold dv;(repeat' split) <;> omega
    exact⟨_,rfl,(show Value.int .i64 ((36:Nat):Int)=_ by rw [hv]),(Ext.refl w)⟩
set_option maxHeartbeats 4000000 in
theorem rx_powerI {w:World}{base n:Nat}(hbl:2≤base) (hbu:base≤36) (hn:n≤68719476736):
    Calls Tryd.prog 112 #[.int .i64 ((base:Nat):Int),.int .i64 ((n:Nat):Int)] w (Gv w (WR w.heap.size (base^n))):=by
 refine sx_enter Tryd.func112 rfl (n:=26) rfl (bq rfl) (args:= [.int .i64 ((base:Nat):Int),.int .i64 ((n:Nat):Int)]) (cw_keep [(0,.int .i64 ((base:Nat):Int)),(1,.int .i64 ((n:Nat):Int))] ⟨rfl,rfl,trivial⟩ (sr (mv 1 rfl (ne_ (sr (wl_bslice rfl rfl (by decide) (k:=1) (e:=50) [.int .u64 1] (fun _=>by kernel_rfl) fun g1 v2 nb3=>?_))))))
 have o4:=O1.mk_ (x:=1) (b:=w.heap.size) nb3 (Ext.refl w).size
 have e5:=nb3.ext
 have hw1:=(Ext.refl w).trans e5
 have o7:=own1_wd o4 (show 1≤18446744073709551615 by decide) (show 1≠0 by decide)
 have j6:=len1 (show 1≤18446744073709551615 by decide) (show 1≠0 by decide)
 refine mv 1 rfl (wl_pureE rfl rfl (v:= .int .u64 (IntKind.u64.wrap ((base:Nat):Int))) (v':= .int .u64 ((base:Nat):Int)) (by decide) (by kernel_rfl) (cv_u64 (by first | omega | exact hle64)) (wl_bslice rfl rfl (by decide) (k:=1) (e:=50) [.int .u64 ((base:Nat):Int)] (fun _=>by kernel_rfl) fun g8 v9 nb10=>?_))
 have o11:=O1.mk_ (x:=base) (b:=w.heap.size) nb10 hw1.size
 have e12:=nb10.ext
 have hw2:=hw1.trans e12
 have o14:=own1_wd o11 (show base≤18446744073709551615 by omega) (show base≠0 by omega)
 have j13:=len1 (show base≤18446744073709551615 by omega) (show base≠0 by omega)
 refine mv 2 rfl (ne_ (cw_seq (cw_block ?_)))
 refine cw_loop (T:=World×Nat×Nat×Nat×Option Addr×Nat×Nat×Option Addr×Nat×Nat)
  (fun⟨wr,e,p,b,PA,pn,pc,BA,bn,bc⟩=> [(0,.int .i64 ((base:Nat):Int)),(1,.int .i64 ((e:Nat):Int)),(5,.slice PA pn pc),(6,.slice BA bn bc)])
  (fun⟨wr,e,p,b,PA,pn,pc,BA,bn,bc⟩=>wr)
  (fun⟨wr,e,p,b,PA,pn,pc,BA,bn,bc⟩=>(Ext w wr)∧(p*b^e=base^n)∧(1≤p)∧(1≤b)∧(pn=(wd p).length)∧(bn=(wd b).length)∧(Own wr w.heap.size 50 1 PA pn pc ((wd p).map W64))∧(Own wr w.heap.size 50 1 BA bn bc ((wd b).map W64))∧(e≤n))
  (fun⟨wr,e,p,b,PA,pn,pc,BA,bn,bc⟩=>e)
  (⟨v9,n,1,base,(some ⟨g1,0,none⟩),1,1,(some ⟨g8,0,none⟩),1,1⟩:World×Nat×Nat×Nat×Option Addr×Nat×Nat×Option Addr×Nat×Nat) ⟨hw2,(by rw [Nat.one_mul]),(by decide),(by omega),j6,j13,(o7.ext e12),o14,(Nat.le_refl _)⟩ rfl ⟨rfl,rfl,rfl,rfl,trivial⟩ ?_
 rintro⟨wr,e,p,b,PA,pn,pc,BA,bn,bc⟩ ⟨hw1,hI,hp1,hb1,hpn,hbn,hpo,hbo,he⟩
 refine cw_re [(0,.int .i64 ((base:Nat):Int)),(1,.int .i64 ((e:Nat):Int)),(5,.slice PA pn pc),(6,.slice BA bn bc)] wr rfl ⟨rfl,rfl,rfl,rfl,trivial⟩ (cw_seq (cw_seq ?_))
 by_cases he0:e>0
 · 
  have hpK:=Nat.le_trans (len_wd_mono (pw_p hI hb1)) (len_pow36 (n:=n) hbu)
  have hbK:=Nat.le_trans (len_wd_mono (pw_b hI hp1 hb1 he0)) (len_pow36 (n:=n) hbu)
  refine cw_region (mv 1 rfl (wl_cmp rfl rfl rfl true (cb_gt_t (a:=e) (b:=0) rfl rfl (by omega)) (by decide) (ne_ (cw_true rfl (cw_skip (eo_then (cw_seq (cw_block (cw_seq (cw_seq ?_))))))))))
  by_cases ho:e%2=1
  · 
   refine cw_region (mv 1 rfl (wl_ar rfl rfl rfl ((e%2:Nat):Int) (au_rem (a:=e) (b:=2) rfl rfl (by omega)) (by decide) (wl_cmp rfl rfl rfl true (cb_eq_t (a:=e%2) (b:=1) rfl rfl (by omega)) (by decide) (ne_ (cw_true rfl (cw_region (mv 2 rfl (cl (vs:= [.slice PA pn pc,.slice BA bn bc]) hw1 (rx_MulW hw1.size hpo.wi hbo.wi (by omega)) rfl (by kernel_rfl) fun xr17 v15 r17 e16 hw2=>?_))))))))
   obtain⟨A18,n18,c18,rfl,j18,o18⟩:=r17
   refine mv 1 rfl (ne_ (cw_seq ?_))
   by_cases hg:e>1
   · 
    refine cw_region (mv 1 rfl (wl_cmp rfl rfl rfl true (cb_gt_t (a:=e) (b:=1) rfl rfl (by omega)) (by decide) (ne_ (cw_true rfl (cw_region (mv 1 rfl (cl (vs:= [.slice BA bn bc]) hw2 (rx_Square hw2.size (hbo.ext e16).wi (by omega)) rfl (by kernel_rfl) fun xr21 v19 r21 e20 hw3=>?_)))))))
    obtain⟨A22,n22,c22,rfl,j22,o22⟩:=r21
    refine mv 1 rfl (wl_nil (eo_block_normal (eo_then (cw_region (mv 1 rfl (wl_ar rfl rfl rfl ((e/2:Nat):Int) (ai_quo (a:=e) (b:=2) rfl rfl (by omega) (by omega)) (by decide) (mv 1 rfl (wl_nil (eo_round (⟨v19,e/2,p*b,b*b,A18,n18,c18,A22,n22,c22⟩:World×Nat×Nat×Nat×Option Addr×Nat×Nat×Option Addr×Nat×Nat) ⟨hw3,(by rw [pw_odd ho];exact hI),(by first | decide | omega | exact Nat.mul_pos hp1 hb1),(by first | assumption | exact Nat.mul_pos hb1 hb1),j18,j22,(o18.ext e20),o22,(Nat.le_trans (Nat.div_le_self _ _) he)⟩ (Nat.div_lt_self he0 (by decide)) rfl ⟨rfl,rfl,rfl,rfl,trivial⟩)))))))))
   · 
    refine cw_region (mv 1 rfl (wl_cmp rfl rfl rfl false (cb_gt_f (a:=e) (b:=1) rfl rfl (by omega)) (by decide) (ne_ (cw_false rfl (cw_skip (eo_block_normal (eo_then (cw_region (mv 1 rfl (wl_ar rfl rfl rfl ((e/2:Nat):Int) (ai_quo (a:=e) (b:=2) rfl rfl (by omega) (by omega)) (by decide) (mv 1 rfl (wl_nil (eo_round (⟨v15,e/2,p*b,b,A18,n18,c18,BA,bn,bc⟩:World×Nat×Nat×Nat×Option Addr×Nat×Nat×Option Addr×Nat×Nat) ⟨hw2,(by rw [pw_last (by omega)];exact hI),(by first | decide | omega | exact Nat.mul_pos hp1 hb1),(by first | assumption | exact Nat.mul_pos hb1 hb1),j18,hbn,o18,(hbo.ext e16),(Nat.le_trans (Nat.div_le_self _ _) he)⟩ (Nat.div_lt_self he0 (by decide)) rfl ⟨rfl,rfl,rfl,rfl,trivial⟩)))))))))))))
  · 
   refine cw_region (mv 1 rfl (wl_ar rfl rfl rfl ((e%2:Nat):Int) (au_rem (a:=e) (b:=2) rfl rfl (by omega)) (by decide) (wl_cmp rfl rfl rfl false (cb_eq_f (a:=e%2) (b:=1) rfl rfl (by omega)) (by decide) (ne_ (cw_false rfl (cw_skip (eo_then (cw_seq ?_))))))))
   by_cases hg:e>1
   · 
    refine cw_region (mv 1 rfl (wl_cmp rfl rfl rfl true (cb_gt_t (a:=e) (b:=1) rfl rfl (by omega)) (by decide) (ne_ (cw_true rfl (cw_region (mv 1 rfl (cl (vs:= [.slice BA bn bc]) hw1 (rx_Square hw1.size hbo.wi (by omega)) rfl (by kernel_rfl) fun xr25 v23 r25 e24 hw2=>?_)))))))
    obtain⟨A26,n26,c26,rfl,j26,o26⟩:=r25
    refine mv 1 rfl (wl_nil (eo_block_normal (eo_then (cw_region (mv 1 rfl (wl_ar rfl rfl rfl ((e/2:Nat):Int) (ai_quo (a:=e) (b:=2) rfl rfl (by omega) (by omega)) (by decide) (mv 1 rfl (wl_nil (eo_round (⟨v23,e/2,p,b*b,PA,pn,pc,A26,n26,c26⟩:World×Nat×Nat×Nat×Option Addr×Nat×Nat×Option Addr×Nat×Nat) ⟨hw2,(by rw [pw_even ho];exact hI),(by first | decide | omega | exact Nat.mul_pos hp1 hb1),(by first | assumption | exact Nat.mul_pos hb1 hb1),hpn,j26,(hpo.ext e24),o26,(Nat.le_trans (Nat.div_le_self _ _) he)⟩ (Nat.div_lt_self he0 (by decide)) rfl ⟨rfl,rfl,rfl,rfl,trivial⟩)))))))))
   · 
    refine cw_region (mv 1 rfl (wl_cmp rfl rfl rfl false (cb_gt_f (a:=e) (b:=1) rfl rfl (by omega)) (by decide) (ne_ (cw_false rfl (cw_skip (eo_block_normal (eo_then (cw_region (mv 1 rfl (wl_ar rfl rfl rfl ((e/2:Nat):Int) (ai_quo (a:=e) (b:=2) rfl rfl (by omega) (by omega)) (by decide) (mv 1 rfl (wl_nil (eo_round (⟨wr,e/2,p,b,PA,pn,pc,BA,bn,bc⟩:World×Nat×Nat×Nat×Option Addr×Nat×Nat×Option Addr×Nat×Nat) ⟨hw1,(by omega),(by first | decide | omega | exact Nat.mul_pos hp1 hb1),(by first | assumption | exact Nat.mul_pos hb1 hb1),hpn,hbn,hpo,hbo,(Nat.le_trans (Nat.div_le_self _ _) he)⟩ (Nat.div_lt_self he0 (by decide)) rfl ⟨rfl,rfl,rfl,rfl,trivial⟩)))))))))))))
 · 
  refine cw_region (mv 1 rfl (wl_cmp rfl rfl rfl false (cb_gt_f (a:=e) (b:=0) rfl rfl (by omega)) (by decide) (ne_ (cw_false rfl (cw_exit (eo_thenX (eo_loopX (eo_block_here (eo_then (sr (mv 2 rfl (ne_ (cw_ret ?_)))))))))))))
  refine eo_ret [.slice PA pn pc] rfl ⟨rfl,trivial⟩ ?_
  have e0:e=0:=by omega
  subst e0
  rw [Nat.pow_zero,Nat.mul_one] at hI
  subst hI
  exact⟨_,rfl,⟨_,_,_,rfl,hpn,hpo⟩,hw1⟩
theorem vald_split {b n k:Nat}{ds:List Nat}(hl:ds.length=n) (hk:k≤n):vald b (ds.take (n-k))*b^k+vald b (ds.drop (n-k))=vald b ds:=by
 have h:=vald_append b (ds.take (n-k)) (ds.drop (n-k))
 rw [List.take_append_drop,List.length_drop,hl,show n-(n-k)=k by omega] at h
 exact h.symm
theorem PieceK.pos {b k:Nat}(h:PieceK b k) (hb:b≤36):1≤k:=by
 rcases Nat.eq_zero_or_pos k with e | e
 ·have:=h.gt;rw [e,Nat.zero_add,Nat.pow_one] at this;omega
 ·exact e
theorem step_ok {b k i v x:Nat}(hk:PieceK b k) (hb:1≤b) (hi:i+1≤k) (hv:v<b^i) (hx:x<b):v*b+x≤18446744073709551615∧b^i*b≤18446744073709551615:=by
 have h1:b^(i+1)≤b^k:=Nat.pow_le_pow_right hb hi
 rw [Nat.pow_succ] at h1
 have h2:=hk.le
 have h3:(v+1)*b≤b^i*b:=Nat.mul_le_mul_right b hv
 rw [Nat.add_mul,Nat.one_mul] at h3
 exact⟨by omega,by omega⟩
theorem len_one {x:Nat}(h:x≤18446744073709551615):(wd x).length≤1:=len_wd_le (by rw [Nat.pow_one,WB_def];omega)
theorem mem_take_lt {b:Nat}{xs:List Nat}(h:∀x,x∈xs→x<b) (k:Nat):∀x,x∈xs.take k→x<b:=fun x hx=>h x (List.mem_of_mem_take hx)
theorem mem_drop_lt {b:Nat}{xs:List Nat}(h:∀x,x∈xs→x<b) (k:Nat):∀x,x∈xs.drop k→x<b:=fun x hx=>h x (List.mem_of_mem_drop hx)
def NumOk (N:Nat):Prop:=∀{w:World}{A:Option Addr}{n c base:Nat}{ds:List Nat},n≤N→2≤base→base≤36→Rb base w A n c ds→n≤17179869184→
 Calls Tryd.prog 102 #[.slice A n c,.int .i64 ((base:Nat):Int)] w (Gv w (WR w.heap.size (vald base ds)))
set_option maxHeartbeats 4000000 in
theorem rx_number_big {N:Nat}(ih:NumOk N){w:World}{A:Option Addr}{n c base:Nat}{ds:List Nat}(hnN:n≤N+1) (hbl:2≤base) (hbu:base≤36) (hd:Rb base w A n c ds) (hn:n≤17179869184) (hbig:200<n):
    Calls Tryd.prog 102 #[.slice A n c,.int .i64 ((base:Nat):Int)] w (Gv w (WR w.heap.size (vald base ds))):=by
 have hB1:(wd (vald base (ds.take (n-(n/2))))).length≤n:=by have:=len_vald (by omega) hbu (mem_take_lt hd.wf (n-(n/2)));rw [List.length_take,hd.len] at this;omega
 have hB2:(wd (vald base (ds.drop (n-(n/2))))).length≤n:=by have:=len_vald (by omega) hbu (mem_drop_lt hd.wf (n-(n/2)));rw [List.length_drop,hd.len] at this;omega
 have hB3:(wd (base^(n/2))).length≤n/2+1:=len_pow36 hbu
 refine sx_enter Tryd.func102 rfl (n:=81) rfl (bq rfl) (args:= [.slice A n c,.int .i64 ((base:Nat):Int)]) (cw_keep [(0,.slice A n c),(1,.int .i64 ((base:Nat):Int))] ⟨rfl,rfl,trivial⟩ (sr (mv 1 rfl (ne_ (cw_seq (sr (mv 1 rfl (pu (v:= .int .i64 ((n:Nat):Int)) rfl (by kernel_rfl) (wl_cmp rfl rfl rfl true (cb_gt_t (a:=n) (b:=200) rfl rfl (by omega)) (by decide) (ne_ (cw_true rfl (sr (mv 1 rfl ?_)))))))))))))
 refine pu (v:= .int .i64 ((n:Nat):Int)) rfl (by kernel_rfl) (wl_ar rfl rfl rfl ((n/2:Nat):Int) (ai_quo (a:=n) (b:=2) rfl rfl (by omega) (by omega)) (by decide) (mv 1 rfl (ne_ (sr (mv 1 rfl (pu (v:= .int .i64 ((n:Nat):Int)) rfl (by kernel_rfl) (mv 1 rfl (wl_ar rfl rfl rfl ((n-(n/2):Nat):Int) (ai_sub (a:=n) (b:=n/2) rfl rfl (by omega) (by omega)) (by decide) (mv 1 rfl (ne_ (cw_seq ?_)))))))))))
 refine cw_draw mix 14 [] [Is (.slice A n c),Is (.int .i64 ((n-(n/2):Nat):Int)),Is (.slice A (n-(n/2)) c),Is (.int .i64 ((base:Nat):Int)),WR w.heap.size (vald base (ds.take (n-(n/2)))),Is (.int .i64 ((base:Nat):Int)),Is (.int .i64 ((n/2:Nat):Int)),WR w.heap.size (base^(n/2)),Is (.slice A n c),Is (.int .i64 ((n-(n/2):Nat):Int)),Is (.slice (if c=n-(n/2) then A else A.map (·.add ((n-(n/2))*1))) (n-(n-(n/2))) (c-(n-(n/2)))),Is (.int .i64 ((base:Nat):Int)),WR w.heap.size (vald base (ds.drop (n-(n/2)))),WR w.heap.size ((vald base (ds.take (n-(n/2))))*(base^(n/2))+(vald base (ds.drop (n-(n/2)))))] [[],[],[0,1],[],[2,3],[],[],[5,6],[],[],[8,9],[],[10,11],[4,7,12]] [[],[],[0,1],[],[0,1,2,3],[],[],[0,1,2,3,4,5,6],[],[],[8,9],[],[0,1,2,3,4,5,6,7,8,9,10,11],[0,1,2,3,4,5,6,7,8,9,10,11,12],[0,1,2,3,4,5,6,7,8,9,10,11,12,13]] rfl
  (obs_cons rfl rfl (hob rfl rfl ?_) (obs_cons rfl rfl (hob rfl rfl ?_) (obs_cons rfl rfl (hob rfl rfl ?_) (obs_cons rfl rfl (hob rfl rfl ?_) (obs_cons rfl rfl (hob rfl rfl ?_) (obs_cons rfl rfl (hob rfl rfl ?_) (obs_cons rfl rfl (hob rfl rfl ?_) (obs_cons rfl rfl (hob rfl rfl ?_) (obs_cons rfl rfl (hob rfl rfl ?_) (obs_cons rfl rfl (hob rfl rfl ?_) (obs_cons rfl rfl (hob rfl rfl ?_) (obs_cons rfl rfl (hob rfl rfl ?_) (obs_cons rfl rfl (hob rfl rfl ?_) (obs_cons rfl rfl (hob rfl rfl ?_) obs_nil)))))))))))))) ?_
 · 
  exact fun _ _=>deps_nil (mv 1 rfl (pi_done rfl (Ext.refl _) rfl))
 · 
  exact fun _ _=>deps_nil (mv 1 rfl (pi_done rfl (Ext.refl _) rfl))
 · 
  exact fun _ e10=>dk rfl rfl (dk rfl rfl (deps_nil (wl_slice rfl rfl un_u8 sz_u8 (lo:=0) (hi:=n-(n/2)) rfl rfl (by omega) (by have:=(hd.ext e10).rv.le;omega) (v:= .slice A (n-(n/2)) c) (slice_to8 _ _ _) (by decide) (pi_done rfl (Ext.refl _) rfl))))
 · 
  exact fun _ _=>deps_nil (mv 1 rfl (pi_done rfl (Ext.refl _) rfl))
 · 
  intro v23 e24
  have hw1:=(Ext.refl w).trans e24
  refine dk rfl rfl (dk rfl rfl (deps_nil (cl (vs:= [.slice A (n-(n/2)) c,.int .i64 ((base:Nat):Int)]) hw1 ((ih (by omega) hbl hbu ((hd.take (k:=n-(n/2)) (by omega)).ext e24) (by omega)).mono (Gv.imp (WR.imp hw1.size))) rfl (by kernel_rfl) fun xr37 v35 r37 e36 hw2=>?_)))
  obtain⟨A38,n38,c38,rfl,j38,o38⟩:=r37
  exact pi_done rfl e36 ⟨_,_,_,rfl,j38,o38⟩
 · 
  exact fun _ _=>deps_nil (mv 1 rfl (pi_done rfl (Ext.refl _) rfl))
 · 
  exact fun _ _=>deps_nil (mv 1 rfl (pi_done rfl (Ext.refl _) rfl))
 · 
  intro v43 e44
  have hw1:=(Ext.refl w).trans e44
  refine dk rfl rfl (dk rfl rfl (deps_nil (cl (vs:= [.int .i64 ((base:Nat):Int),.int .i64 ((n/2:Nat):Int)]) hw1 ((rx_powerI (n:=n/2) hbl hbu (by omega)).mono (Gv.imp (WR.imp hw1.size))) rfl (by kernel_rfl) fun xr57 v55 r57 e56 hw2=>?_)))
  obtain⟨A58,n58,c58,rfl,j58,o58⟩:=r57
  exact pi_done rfl e56 ⟨_,_,_,rfl,j58,o58⟩
 · 
  exact fun _ _=>deps_nil (mv 1 rfl (pi_done rfl (Ext.refl _) rfl))
 · 
  exact fun _ _=>deps_nil (mv 1 rfl (pi_done rfl (Ext.refl _) rfl))
 · 
  exact fun _ e64=>dk rfl rfl (dk rfl rfl (deps_nil (wl_slice rfl rfl un_u8 sz_u8 (lo:=n-(n/2)) (hi:=n) rfl rfl (by omega) (by have:=(hd.ext e64).rv.le;omega) (v:= .slice (if c=n-(n/2) then A else A.map (·.add ((n-(n/2))*1))) (n-(n-(n/2))) (c-(n-(n/2)))) (slice_from _ _ _ _) (by decide) (pi_done rfl (Ext.refl _) rfl))))
 · 
  exact fun _ _=>deps_nil (mv 1 rfl (pi_done rfl (Ext.refl _) rfl))
 · 
  intro v77 e78
  have hw1:=(Ext.refl w).trans e78
  refine dk rfl rfl (dk rfl rfl (deps_nil (cl (vs:= [.slice (if c=n-(n/2) then A else A.map (·.add ((n-(n/2))*1))) (n-(n-(n/2))) (c-(n-(n/2))),.int .i64 ((base:Nat):Int)]) hw1 ((ih (by omega) hbl hbu ((hd.drop (k:=n-(n/2)) (by omega)).ext e78) (by omega)).mono (Gv.imp (WR.imp hw1.size))) rfl (by kernel_rfl) fun xr91 v89 r91 e90 hw2=>?_)))
  obtain⟨A92,n92,c92,rfl,j92,o92⟩:=r91
  exact pi_done rfl e90 ⟨_,_,_,rfl,j92,o92⟩
 · 
  intro v93 e94
  have hw1:=(Ext.refl w).trans e94
  refine deps_cons rfl rfl fun x95 y96 h97 e98 f99=>?_
  obtain⟨A100,n100,c100,rfl,j100,o100⟩:=h97
  have o100:=o100.ext f99
  refine deps_cons rfl rfl fun x101 y102 h103 e104 f105=>?_
  obtain⟨A106,n106,c106,rfl,j106,o106⟩:=h103
  have o106:=o106.ext f105
  refine deps_cons rfl rfl fun x107 y108 h109 e110 f111=>?_
  obtain⟨A112,n112,c112,rfl,j112,o112⟩:=h109
  have o112:=o112.ext f111
  refine deps_nil (cl (vs:= [.slice A100 n100 c100,.slice A106 n106 c106,.slice A112 n112 c112]) hw1 (rx_MulAdd hw1.size o100.wi o106.wi o112.wi (by omega) (by omega)) rfl (by kernel_rfl) fun xr115 v113 r115 e114 hw2=>?_)
  obtain⟨A116,n116,c116,rfl,j116,o116⟩:=r115
  exact pi_done rfl e114 ⟨_,_,_,rfl,j116,o116⟩
 · 
  intro v117 e118
  have hw1:=(Ext.refl w).trans e118
  refine dk rfl rfl (dk rfl rfl (dk rfl rfl (dk rfl rfl (deps_cons rfl rfl fun x139 y140 h141 e142 f143=>?_))))
  obtain⟨A144,n144,c144,rfl,j144,o144⟩:=h141
  have o144:=o144.ext f143
  refine dk rfl rfl (dk rfl rfl (deps_cons rfl rfl fun x155 y156 h157 e158 f159=>?_))
  obtain⟨A160,n160,c160,rfl,j160,o160⟩:=h157
  have o160:=o160.ext f159
  refine dk rfl rfl (dk rfl rfl (dk rfl rfl (dk rfl rfl (deps_cons rfl rfl fun x181 y182 h183 e184 f185=>?_))))
  obtain⟨A186,n186,c186,rfl,j186,o186⟩:=h183
  have o186:=o186.ext f185
  refine deps_cons rfl rfl fun x187 y188 h189 e190 f191=>?_
  obtain⟨A192,n192,c192,rfl,j192,o192⟩:=h189
  have o192:=o192.ext f191
  refine deps_nil (mv 1 rfl (wl_nil (eo_np (eo_then (cw_ret (eo_thenR (eo_ret [.slice A192 n192 c192] rfl ⟨rfl,trivial⟩ ?_)))))))
  have hv:(vald base (ds.take (n-(n/2))))*(base^(n/2))+(vald base (ds.drop (n-(n/2))))=vald base ds:=vald_split hd.len (by omega)
  exact⟨_,rfl,⟨_,_,_,rfl,hv▸j192,hv▸o192⟩,hw1⟩
set_option maxHeartbeats 4000000 in
theorem rx_number_low {w:World}{A:Option Addr}{n c base:Nat}{ds:List Nat}(hbl:2≤base) (hbu:base≤36) (hd:Rb base w A n c ds) (hlow:n≤200):
    Calls Tryd.prog 102 #[.slice A n c,.int .i64 ((base:Nat):Int)] w (Gv w (WR w.heap.size (vald base ds))):=by
 refine sx_enter Tryd.func102 rfl (n:=81) rfl (bq rfl) (args:= [.slice A n c,.int .i64 ((base:Nat):Int)]) (cw_keep [(0,.slice A n c),(1,.int .i64 ((base:Nat):Int))] ⟨rfl,rfl,trivial⟩ (sr (mv 1 rfl (ne_ (cw_seq (sr (mv 1 rfl (pu (v:= .int .i64 ((n:Nat):Int)) rfl (by kernel_rfl) (wl_cmp rfl rfl rfl false (cb_gt_f (a:=n) (b:=200) rfl rfl (by omega)) (by decide) (ne_ (cw_false rfl (cw_skip (eo_then ?_)))))))))))))
 refine sr (mv 1 rfl (wl_call rfl rfl (vs:= [.int .i64 ((base:Nat):Int)]) (by kernel_rfl) (by decide) (rx_piece hbl hbu) ?_))
 rintro _ v1 ⟨k4,p5,xr3,rfl,r3,e2⟩
 have hk1:=p5.pos hbu
 have hk64:=p5.le64
 refine ret_intro ?_
 have hw1:=(Ext.refl w).trans e2
 obtain⟨_,_,rfl,rfl,rfl⟩:=r3
 refine mv 1 rfl (pu (v:= .int .i64 ((k4:Nat):Int)) rfl (by kernel_rfl) (pu (v:= .int .u64 ((base^k4:Nat):Int)) rfl (by kernel_rfl) (mv 2 rfl (ne_ (sr (mv 1 rfl (ne_ (cw_seq (cw_block ?_)))))))))
 refine cw_loop (T:=World×List Nat×List Nat×Option Addr×Nat×Nat×Option Addr×Nat×Nat)
  (fun⟨wr,pre,rest,DA,dn,dc,QA,qn,qc⟩=> [(0,.slice DA dn dc),(1,.int .i64 ((base:Nat):Int)),(7,.int .i64 ((k4:Nat):Int)),(9,.slice QA qn qc)])
  (fun⟨wr,pre,rest,DA,dn,dc,QA,qn,qc⟩=>wr)
  (fun⟨wr,pre,rest,DA,dn,dc,QA,qn,qc⟩=>(Ext w wr)∧(pre++rest=ds)∧(qn=(wd (vald base pre)).length)∧(Own wr w.heap.size 50 1 QA qn qc ((wd (vald base pre)).map W64))∧(Rb base wr DA dn dc rest))
  (fun⟨wr,pre,rest,DA,dn,dc,QA,qn,qc⟩=>dn)
  (⟨v1,[],ds,A,n,c,none,0,0⟩:World×List Nat×List Nat×Option Addr×Nat×Nat×Option Addr×Nat×Nat) ⟨hw1,rfl,rfl,(Own.nil _ _ _ _),(hd.ext e2)⟩ rfl ⟨rfl,rfl,rfl,rfl,trivial⟩ ?_
 rintro⟨wr,pre,rest,DA,dn,dc,QA,qn,qc⟩ ⟨hw1,hsp,han,hao,rl0⟩
 refine cw_re [(0,.slice DA dn dc),(1,.int .i64 ((base:Nat):Int)),(7,.int .i64 ((k4:Nat):Int)),(9,.slice QA qn qc)] wr rfl ⟨rfl,rfl,rfl,rfl,trivial⟩ (cw_seq (cw_seq ?_))
 by_cases hdn:dn>0
 · 
  refine cw_region (mv 1 rfl (pu (v:= .int .i64 ((dn:Nat):Int)) rfl (by kernel_rfl) (wl_cmp rfl rfl rfl true (cb_gt_t (a:=dn) (b:=0) rfl rfl (by omega)) (by decide) (ne_ (cw_true rfl (cw_skip (eo_then (cw_block (sr (mv 2 rfl (pu (v:= .int .i64 ((dn:Nat):Int)) rfl (by kernel_rfl) (wl_mi rfl rfl rfl (((min k4 dn:Nat):Int)) (by omega) (by decide) (mv 1 rfl ?_)))))))))))))
  refine ne_ (sr (mv 2 rfl (ne_ (cw_seq (sr (mv 2 rfl (wl_slice rfl rfl un_u8 sz_u8 (lo:=0) (hi:=min k4 dn) rfl rfl (by omega) (by have:=rl0.rv.le;omega) (v:= .slice DA (min k4 dn) dc) (slice_to8 _ _ _) (by decide) (pu (v:= .int .i64 (((min k4 dn):Nat):Int)) rfl (by kernel_rfl) (mv 1 rfl (ne_ (cw_block ?_)))))))))))
  refine cw_loop (T:=World×Nat×Nat×Nat)
   (fun⟨wq,i,v,p⟩=> [(0,.slice DA dn dc),(1,.int .i64 ((base:Nat):Int)),(7,.int .i64 ((k4:Nat):Int)),(10,.int .i64 ((min k4 dn:Nat):Int)),(9,.slice QA qn qc),(11,.int .u64 ((v:Nat):Int)),(12,.int .u64 ((p:Nat):Int)),(53,.slice DA (min k4 dn) dc),(54,.int .i64 (((min k4 dn):Nat):Int)),(55,.int .i64 ((i:Nat):Int))])
   (fun⟨wq,i,v,p⟩=>wq)
   (fun⟨wq,i,v,p⟩=>(Ext w wq)∧(i≤min k4 dn)∧(v=vald base (rest.take i))∧(p=base^i)∧(Own wq w.heap.size 50 1 QA qn qc ((wd (vald base pre)).map W64))∧(Rb base wq DA dn dc rest)∧(Rb base wq DA (min k4 dn) dc (rest.take (min k4 dn))))
   (fun⟨wq,i,v,p⟩=>min k4 dn-i)
   (⟨wr,0,0,1⟩:World×Nat×Nat×Nat) ⟨hw1,(Nat.zero_le _),rfl,rfl,hao,rl0,(rl0.take (k:=min k4 dn) (by omega))⟩ rfl ⟨rfl,rfl,rfl,rfl,rfl,rfl,rfl,rfl,rfl,rfl,trivial⟩ ?_
  rintro⟨wq,i,v,p⟩ ⟨hw1,hi,hv,hpp,hao,rl0,rl53⟩
  refine cw_re [(0,.slice DA dn dc),(1,.int .i64 ((base:Nat):Int)),(7,.int .i64 ((k4:Nat):Int)),(10,.int .i64 ((min k4 dn:Nat):Int)),(9,.slice QA qn qc),(11,.int .u64 ((v:Nat):Int)),(12,.int .u64 ((p:Nat):Int)),(53,.slice DA (min k4 dn) dc),(54,.int .i64 (((min k4 dn):Nat):Int)),(55,.int .i64 ((i:Nat):Int))] wq rfl ⟨rfl,rfl,rfl,rfl,rfl,rfl,rfl,rfl,rfl,rfl,trivial⟩ (cw_seq ?_)
  by_cases htst:i<min k4 dn
  · 
   have hx:=rl53.dig (i:=i) htst
   have hvl:v<base^i:=by rw [hv];have:=vald_lt (b:=base) (by omega) (rest.take i) (mem_take_lt rl0.wf i);rwa [List.length_take,Nat.min_eq_left (by rw [rl0.len];omega)] at this
   have hso:=step_ok p5 (by omega) (show i+1≤k4 by omega) hvl hx
   rw [←hpp] at hso
   obtain⟨hso1,hso2⟩:=hso
   refine cw_region (wl_cmp rfl rfl rfl true (cb_lt_t (a:=i) (b:=min k4 dn) rfl rfl (by omega)) (by decide) (ne_ (cw_seq (cw_true rfl (cw_skip (eo_then (cw_seq (cw_block (sr ?_)))))))))
   obtain⟨p7,hp7,hc7,hv7⟩:=(rl53).at (by decide) (i:=i) (by omega)
   refine wl_idx rfl rfl rfl un_u8 sz_u8 i rfl (by omega) p7 hp7 (by decide) (wl_load rfl rfl (load_cell1 ag_u8 hc7) (by decide) (mv 1 rfl (ne_ (sr (mv 2 rfl (wl_pureE rfl rfl (v:= .int .u64 (IntKind.u64.wrap ((base:Nat):Int))) (v':= .int .u64 ((base:Nat):Int)) (by decide) (by kernel_rfl) (cv_u64 (by first | omega | exact hle64)) (wl_ar rfl rfl rfl ((v*base:Nat):Int) (au_mul (a:=v) (b:=base) rfl rfl (by omega)) (by decide) (mv 1 rfl (wl_pureE rfl rfl (v:= .int .u64 (IntKind.u64.wrap (((rest.take (min k4 dn)).getD i 0:Nat):Int))) (v':= .int .u64 (((rest.take (min k4 dn)).getD i 0:Nat):Int)) (by decide) (by kernel_rfl) (cv_u64 (by first | omega | exact hle64)) (wl_ar rfl rfl rfl (((v*base)+((rest.take (min k4 dn)).getD i 0):Nat):Int) (au_add (a:=v*base) (b:=(rest.take (min k4 dn)).getD i 0) rfl rfl (by omega)) (by decide) (mv 1 rfl (ne_ (cw_region ?_)))))))))))))
   refine mv 2 rfl (wl_pureE rfl rfl (v:= .int .u64 (IntKind.u64.wrap ((base:Nat):Int))) (v':= .int .u64 ((base:Nat):Int)) (by decide) (by kernel_rfl) (cv_u64 (by first | omega | exact hle64)) (wl_ar rfl rfl rfl ((p*base:Nat):Int) (au_mul (a:=p) (b:=base) rfl rfl (by omega)) (by decide) (mv 1 rfl (wl_nil (eo_block_normal (eo_then (cw_region (wl_ar rfl rfl rfl ((i+1:Nat):Int) (ai_add (a:=i) (b:=1) rfl rfl (by omega)) (by decide) (mv 1 rfl (wl_nil (eo_round (⟨wq,i+1,v*base+(rest.take (min k4 dn)).getD i 0,p*base⟩:World×Nat×Nat×Nat) ⟨hw1,(by omega),(by rw [take_get htst (by rw [rl0.len];omega),vald_snoc,←hv]),(by rw [hpp,Nat.pow_succ]),hao,rl0,rl53⟩ (show min k4 dn-(i+1)<min k4 dn-i by omega) rfl ⟨rfl,rfl,rfl,rfl,rfl,rfl,rfl,rfl,rfl,rfl,trivial⟩)))))))))))
  · 
   have him:i=min k4 dn:=by omega
   have hpb:p≤18446744073709551615:=by rw [hpp];exact Nat.le_trans (Nat.pow_le_pow_right (by omega) (by omega)) p5.le
   have hvb:v≤18446744073709551615:=by have:=vald_lt (b:=base) (by omega) (rest.take i) (mem_take_lt rl0.wf i);rw [List.length_take,Nat.min_eq_left (by rw [rl0.len];omega),←hpp,←hv] at this;omega
   have hlen:(wd (vald base pre)).length≤200:=by have h1:=len_vald (by omega) hbu (ds:=pre) (fun x hx=>hd.wf x (by rw [←hsp];exact List.mem_append_left _ hx));have h2:=hd.len;rw [←hsp,List.length_append] at h2;omega
   have hL1:(wd (vald base pre*p)).length≤201:=by have:=len_wd_mul (vald base pre) p;have:=len_one hpb;omega
   have hm:vald base (pre++rest.take (min k4 dn))=vald base pre*p+v:=by rw [←him,vald_piece (by rw [rl0.len];omega),hpp,hv]
   refine cw_region (wl_cmp rfl rfl rfl false (cb_lt_f (a:=i) (b:=min k4 dn) rfl rfl (by omega)) (by decide) (ne_ (cw_seq (cw_false rfl (cw_exit (eo_thenX (eo_loopX (eo_block_here (eo_then (sr (mv 2 rfl (cl (vs:= [.slice QA qn qc,.int .u64 ((p:Nat):Int)]) hw1 (rx_MulWord hw1.size hao.wi (by omega) hpb) rfl (by kernel_rfl) fun xr10 v8 r10 e9 hw2=>?_))))))))))))
   obtain⟨A11,n11,c11,rfl,j11,o11⟩:=r10
   refine mv 1 rfl (wl_bslice rfl rfl (by decide) (k:=1) (e:=50) [.int .u64 ((v:Nat):Int)] (fun _=>by kernel_rfl) fun g12 v13 nb14=>?_)
   have o15:=O1.mk_ (x:=v) (b:=w.heap.size) nb14 hw2.size
   have e16:=nb14.ext
   have hw3:=hw2.trans e16
   refine cl (vs:= [.slice A11 n11 c11,.slice (some ⟨g12,0,none⟩) 1 1]) hw3 (rx_AddW hw3.size (o11.ext e16).wi (by omega) (own1_wi o15 hvb) (by decide)) rfl (by kernel_rfl) fun xr21 v19 r21 e20 hw4=>?_
   obtain⟨A22,n22,c22,rfl,j22,o22⟩:=r21
   refine mv 1 rfl (ne_ (cw_region (mv 2 rfl (wl_slice rfl rfl un_u8 sz_u8 (lo:=min k4 dn) (hi:=dn) rfl rfl (by omega) (by have:=(rl0.ext (e9.trans (e16.trans e20))).rv.le;omega) (v:= .slice (if dc=min k4 dn then DA else DA.map (·.add ((min k4 dn)*1))) (dn-(min k4 dn)) (dc-(min k4 dn))) (slice_from _ _ _ _) (by decide) (mv 1 rfl (wl_nil (eo_block_normal (eo_round (⟨v19,pre++rest.take (min k4 dn),rest.drop (min k4 dn),if dc=min k4 dn then DA else DA.map (·.add ((min k4 dn)*1)),dn-(min k4 dn),dc-(min k4 dn),A22,n22,c22⟩:World×List Nat×List Nat×Option Addr×Nat×Nat×Option Addr×Nat×Nat) ⟨hw4,(by rw [List.append_assoc,List.take_append_drop];exact hsp),(by rw [hm];exact j22),(by rw [hm];exact o22),((rl0.ext (e9.trans (e16.trans e20))).drop (k:=min k4 dn) (by omega))⟩ (show dn-min k4 dn<dn by omega) rfl ⟨rfl,rfl,rfl,rfl,trivial⟩))))))))
 · 
  refine cw_region (mv 1 rfl (pu (v:= .int .i64 ((dn:Nat):Int)) rfl (by kernel_rfl) (wl_cmp rfl rfl rfl false (cb_gt_f (a:=dn) (b:=0) rfl rfl (by omega)) (by decide) (ne_ (cw_false rfl (cw_exit (eo_thenX (eo_loopX (eo_block_here (eo_then (sr (mv 2 rfl (wl_nil ?_)))))))))))))
  refine eo_then (cw_ret (eo_ret [.slice QA qn qc] rfl ⟨rfl,trivial⟩ ?_))
  have hr0:rest= []:=List.length_eq_zero_iff.1 (by have:=rl0.len;omega)
  rw [hr0,List.append_nil] at hsp
  exact⟨_,rfl,⟨_,_,_,rfl,hsp▸han,hsp▸hao⟩,hw1⟩
theorem rx_numberN:∀N,NumOk N
 | 0=>fun hn hbl hbu hd _=>rx_number_low hbl hbu hd (by omega)
 | N+1=>by
  intro hn hbl hbu hd hm
  rename_i w A n c base ds
  by_cases h:200<n
  ·exact rx_number_big (rx_numberN N) hn hbl hbu hd hm h
  ·exact rx_number_low hbl hbu hd (by omega)
theorem rx_number {w:World}{b:Nat}(hb:b≤w.heap.size){A:Option Addr}{n c base:Nat}{ds:List Nat}(hbl:2≤base) (hbu:base≤36) (hd:Rb base w A n c ds) (hn:n≤17179869184):Calls Tryd.prog 102 #[.slice A n c,.int .i64 ((base:Nat):Int)] w (Gv w (WR b (vald base ds))):=
 (rx_numberN n (Nat.le_refl _) hbl hbu hd hn).mono (Gv.imp (WR.imp hb))
theorem getD_mem {l:List Nat}{i:Nat}(h:i<l.length):l.getD i 0∈l:=by
 rw [List.getD_eq_getElem?_getD,List.getElem?_eq_getElem h];exact List.getElem_mem h
theorem dig_map {b:Nat}{l:List Nat}(h:∀c,c∈l→dv c<b):∀x,x∈l.map dv→x<b:=by
 intro x hx
 obtain⟨c,hc,rfl⟩:=List.mem_map.1 hx
 exact h c hc
set_option maxHeartbeats 4000000 in
theorem rx_Read_all {w:World}{base:Nat}{bs:List Nat}(hbl:2≤base) (hbu:base≤36) (hbs:∀b,b∈bs→b<256) (hlen:bs.length≤17179869184):
    Calls Tryd.prog 82 #[.string (strB bs),.int .i64 ((base:Nat):Int)] w (fun e w'=>(Good base bs→Gv w (T2 (WR w.heap.size (vald base (bs.map dv))) (Is (.int .i64 0))) e w')∧(¬Good base bs→Gv w (T2 (Is (.slice none 0 0)) (Is (.int .i64 7))) e w')):=by
 refine sx_enter Tryd.func82 rfl (n:=41) rfl (bq rfl) (args:= [.string (strB bs),.int .i64 ((base:Nat):Int)]) (cw_keep [(0,.string (strB bs)),(1,.int .i64 ((base:Nat):Int))] ⟨rfl,rfl,trivial⟩ (sr (mv 2 rfl (ne_ (cw_seq (sr (mv 1 rfl (wl_cmp rfl rfl rfl false (cb_lt_f (a:=base) (b:=2) rfl rfl (by omega)) (by decide) (mv 2 rfl (wl_cmp rfl rfl rfl false (cb_gt_f (a:=base) (b:=36) rfl rfl (by omega)) (by decide) (pu (v:= .bool false) rfl (by kernel_rfl) (ne_ (cw_false rfl ?_)))))))))))))
 refine cw_skip (eo_then (sr (mv 1 rfl (wl_pureE rfl rfl (v:= .int .i64 (((strB bs).size:Nat):Int)) (v':= .int .i64 ((bs.length:Nat):Int)) (by decide) (by kernel_rfl) (by rw [strB_size]) (wl_make80 (k:=bs.length) rfl rfl rfl un_u8 info8 rfl (by omega) (by decide) fun g1 v2 ho3 e4=>?_)))))
 have ho3:=ho3.mono (Ext.refl w).size
 have hw1:=(Ext.refl w).trans e4
 refine mv 1 rfl (ne_ (cw_seq (sr (mv 1 rfl (wl_range (bs:=bs) rfl rfl Tryd.underlying9 (by decide) fun g5 v6 hg7 it8 e9=>?_)))))
 have ge10:w.heap.size≤g5:=by rw [←hg7];exact hw1.size
 clear hg7
 have hw2:=hw1.trans e9
 refine ne_ (cw_block ?_)
 refine cw_loop (T:=World×Nat×Option Addr×Nat)
  (fun⟨wr,p,OA,oc⟩=> [(0,.string (strB bs)),(1,.int .i64 ((base:Nat):Int)),(6,.slice OA p oc),(20,.pointer (some ⟨g5,0,none⟩))])
  (fun⟨wr,p,OA,oc⟩=>wr)
  (fun⟨wr,p,OA,oc⟩=>(Ext w wr)∧(It wr g5 bs p)∧(Own wr w.heap.size 5 1 OA p oc (((bs.take p).map dv).map B8))∧(p≤bs.length)∧(∀c,c∈bs.take p→dv c<base))
  (fun⟨wr,p,OA,oc⟩=>bs.length-p)
  (⟨v6,0,(some ⟨g1,0,none⟩),bs.length⟩:World×Nat×Option Addr×Nat) ⟨hw2,it8,(ho3.ext e9),(Nat.zero_le _),(fun c hc=>absurd hc (by simp))⟩ rfl ⟨rfl,rfl,rfl,rfl,trivial⟩ ?_
 rintro⟨wr,p,OA,oc⟩ ⟨hw1,hI,hO,hp,hg⟩
 refine cw_re [(0,.string (strB bs)),(1,.int .i64 ((base:Nat):Int)),(6,.slice OA p oc),(20,.pointer (some ⟨g5,0,none⟩))] wr rfl ⟨rfl,rfl,rfl,rfl,trivial⟩ (cw_seq ?_)
 by_cases hnx:p<bs.length
 · 
  refine cw_region ?_
  have it11:=hI
  refine wl_nextR rfl rfl hbs it11 (by omega) (by decide) fun v12 r13 z14 hr15 it16 u17=>?_
  have hw2:=u17.ext hw1 ge10
  refine pu (v:= .bool true) rfl (by kernel_rfl) (ne_ (cw_seq (cw_true rfl (cw_skip (eo_then (cw_block (sr (pu (v:= .int .i32 ((r13:Nat):Int)) rfl (by kernel_rfl) (mv 1 rfl (ne_ (sr (mv 1 rfl (cl (vs:= [.int .i32 ((r13:Nat):Int)]) hw2 (rx_value hr15.le) rfl (by kernel_rfl) fun xr20 v18 r20 e19 hw3=>?_)))))))))))))
  obtain rfl:=r20
  refine mv 1 rfl (ne_ (cw_seq (cw_seq ?_)))
  by_cases hge:dv r13≥base
  · 
   have hbad:¬Good base bs:=fun h=>by have:=h.2 (bs.getD p 0) (getD_mem hnx);rw [←hr15.dv] at this;omega
   refine cw_region (mv 2 rfl (wl_cmp rfl rfl rfl true (cb_ge_t (a:=dv r13) (b:=base) rfl rfl (by omega)) (by decide) (ne_ (cw_true rfl (sr (mv 2 rfl (ne_ (cw_ret (eo_thenR (eo_block_ret (eo_loopR (eo_block_ret (eo_thenR ?_)))))))))))))
   refine eo_ret [S0,.int .i64 7] rfl ⟨rfl,rfl,trivial⟩ ?_
   exact⟨fun h=>absurd h hbad,fun _=>⟨_,rfl,⟨_,_,rfl,rfl,rfl⟩,hw3⟩⟩
  · 
   have h1z:=hr15.one (by omega)
   have hdv36:=dv_le r13
   refine cw_region (mv 2 rfl (wl_cmp rfl rfl rfl false (cb_ge_f (a:=dv r13) (b:=base) rfl rfl (by omega)) (by decide) (ne_ (cw_false rfl (cw_skip (eo_then (cw_region (mv 2 rfl (wl_pureE rfl rfl (v:= .int .u8 (IntKind.u8.wrap ((dv r13:Nat):Int))) (v':= .int .u8 ((dv r13:Nat):Int)) (by decide) (by kernel_rfl) (cv_u8 (by omega)) (wl_bslice rfl rfl (by decide) (k:=1) (e:=5) [.int .u8 ((dv r13:Nat):Int)] (fun _=>by kernel_rfl) fun g21 v22 nb=>?_))))))))))
   have hb23:=nb.bk
   have e24:=nb.ext
   clear nb
   have hw4:=hw3.trans e24
   have ow25:=((hO.updI it11 u17).ext (e19.trans e24))
   refine wl_app rfl rfl rfl un_u8 info8 rfl (by decide) (by decide) ow25 hw4.size [.int .u8 ((dv r13:Nat):Int)] rfl (one_news _ hb23) rfl (by omega) (by decide) fun A26 c27 v28 ho29 uo30 kp31=>?_
   have hw5:=uo30.ext hw4 (fun p hp=>(ow25.block p hp).1)
   have ho32:Own v28 w.heap.size 5 1 A26 (p+1) c27 ((((bs.take p).map dv)++ [dv r13]).map B8):=by have h:=ho29;simp only [List.map_append,List.map_cons,List.map_nil] at h⊢;exact h
   refine mv 1 rfl (wl_nil (eo_block_normal ?_))
   have htk:bs.take (p+1)=bs.take p++ [bs.getD p 0]:=by have:=take_get (n:=bs.length) hnx (Nat.le_refl _);rwa [List.take_length] at this
   have hdr:=hr15.dv
   refine eo_round (⟨v28,p+1,A26,c27⟩:World×Nat×Option Addr×Nat) ⟨hw5,(by have h:=((it16.ext (e19.trans e24)).updO uo30 (it_own_ne ow25 (it16.ext (e19.trans e24))));rwa [h1z.1] at h),(by rw [htk,List.map_append];rw [hdr] at ho32;exact ho32),(by omega),(by rw [htk];intro c hc;rcases List.mem_append.1 hc with h | h;(· exact hg c h);(· rw [List.mem_singleton.1 h,←hdr];omega))⟩ (show bs.length-(p+1)<bs.length-p by omega) rfl ⟨rfl,rfl,rfl,rfl,trivial⟩
 · 
  have hpl:p=bs.length:=by omega
  refine cw_region ?_
  have it33:=hI
  refine wl_next_end rfl rfl it33 (by omega) (by decide) (pu (v:= .bool false) rfl (by kernel_rfl) (ne_ (cw_seq (cw_false rfl (cw_exit (eo_thenX (eo_loopX (eo_block_here (eo_then (cw_seq (cw_seq ?_)))))))))))
  by_cases hz:p=0
  · 
   have hbad:¬Good base bs:=fun h=>h.1 (List.length_eq_zero_iff.1 (by omega))
   refine cw_region (mv 1 rfl (pu (v:= .int .i64 ((p:Nat):Int)) rfl (by kernel_rfl) (wl_cmp rfl rfl rfl true (cb_eq_t (a:=p) (b:=0) rfl rfl (by omega)) (by decide) (ne_ (cw_true rfl (sr (mv 2 rfl (ne_ (cw_ret (eo_thenR (eo_ret [S0,.int .i64 7] rfl ⟨rfl,rfl,trivial⟩ ?_)))))))))))
   exact⟨fun h=>absurd h hbad,fun _=>⟨_,rfl,⟨_,_,rfl,rfl,rfl⟩,hw1⟩⟩
  · 
   have hgood:Good base bs:=⟨fun e=>by rw [e] at hpl;simp at hpl;omega,by have:=hg;rwa [hpl,List.take_length] at this⟩
   have hLn:(wd (vald base ((bs.take p).map dv))).length≤p:=by have:=len_vald (b:=base) (by omega) hbu (ds:=(bs.take p).map dv) (dig_map hg);rw [List.length_map,List.length_take] at this;omega
   refine cw_region (mv 1 rfl (pu (v:= .int .i64 ((p:Nat):Int)) rfl (by kernel_rfl) (wl_cmp rfl rfl rfl false (cb_eq_f (a:=p) (b:=0) rfl rfl (by omega)) (by decide) (ne_ (cw_false rfl (cw_skip (eo_then (sr (mv 2 rfl (cl (vs:= [.slice OA p oc,.int .i64 ((base:Nat):Int)]) hw1 (rx_number hw1.size hbl hbu (hO.rb (dig_map hg)) (by omega)) rfl (by kernel_rfl) fun xr36 v34 r36 e35 hw2=>?_))))))))))
   obtain⟨A37,n37,c37,rfl,j37,o37⟩:=r36
   refine cl (vs:= [.slice A37 n37 c37]) hw2 (rx_LeastW hw2.size o37.wi (by omega)) rfl (by kernel_rfl) fun xr40 v38 r40 e39 hw3=>?_
   obtain⟨A41,n41,c41,rfl,j41,o41⟩:=r40
   refine mv 2 rfl (ne_ (cw_ret (eo_ret [.slice A41 n41 c41,I0] rfl ⟨rfl,rfl,trivial⟩ ?_)))
   have hfin:vald base ((bs.take p).map dv)=vald base (bs.map dv):=by rw [hpl,List.take_length]
   exact⟨fun _=>⟨_,rfl,⟨_,_,rfl,⟨_,_,_,rfl,hfin▸j41,hfin▸o41⟩,rfl⟩,hw3⟩,fun h=>absurd hgood h⟩
theorem rx_Read_good {w:World}{b:Nat}(hb:b≤w.heap.size){base:Nat}{bs:List Nat}(hbl:2≤base) (hbu:base≤36) (hbs:∀b,b∈bs→b<256) (hlen:bs.length≤17179869184) (hg:Good base bs):
  Calls Tryd.prog 82 #[.string (strB bs),.int .i64 ((base:Nat):Int)] w (Gv w (T2 (WR b (vald base (bs.map dv))) (Is (.int .i64 0)))):=(rx_Read_all hbl hbu hbs hlen).mono fun _e _w' h=>Gv.imp (T2.imp (WR.imp hb) Is.imp) _ _ (h.1 hg)
theorem rx_Read_bad {w:World}{base:Nat}{bs:List Nat}(hbl:2≤base) (hbu:base≤36) (hbs:∀b,b∈bs→b<256) (hlen:bs.length≤17179869184) (hg:¬Good base bs):
  Calls Tryd.prog 82 #[.string (strB bs),.int .i64 ((base:Nat):Int)] w (Gv w (T2 (Is (.slice none 0 0)) (Is (.int .i64 7)))):=(rx_Read_all hbl hbu hbs hlen).mono fun _e _w' h=>h.2 hg
set_option maxHeartbeats 4000000 in
theorem rx_Text {w:World}{A:Option Addr}{an ac m base:Nat}(hS:Signs w) (hx:Wi w A an ac m) (hal:an≤4194304) (hbl:2≤base) (hbu:base≤36):
    Calls Tryd.prog 75 #[.slice A an ac,.int .i64 ((base:Nat):Int)] w (Gv w (T2 (Is (.string (strB (txtN base m)))) (Is (.int .i64 0)))):=by
 have hml:(wd m).length≤4194304:=Nat.le_trans hx.len hal
 have hlen0:0+max 0 (db base m).length≤137438953472:=by have:=len_db_small hbl hml;omega
 refine sx_enter Tryd.func75 rfl (n:=73) rfl (bq rfl) (args:= [.slice A an ac,.int .i64 ((base:Nat):Int)]) (cw_keep [(0,.slice A an ac),(1,.int .i64 ((base:Nat):Int))] ⟨rfl,rfl,trivial⟩ (sr (mv 2 rfl (ne_ (cw_seq (sr (mv 1 rfl (wl_cmp rfl rfl rfl false (cb_lt_f (a:=base) (b:=2) rfl rfl (by omega)) (by decide) (mv 2 rfl (wl_cmp rfl rfl rfl false (cb_gt_f (a:=base) (b:=36) rfl rfl (by omega)) (by decide) (pu (v:= .bool false) rfl (by kernel_rfl) (ne_ (cw_false rfl ?_)))))))))))))
 refine cw_skip (eo_then (sr (mv 1 rfl (cl (vs:= [.slice A an ac]) (Ext.refl w) (g_nat_LeastW (hx.ext (Ext.refl w)) (by omega)) rfl (by kernel_rfl) fun xr3 v1 r3 e2 hw1=>?_))))
 obtain⟨A4,n4,c4,rfl,j4,o4⟩:=r3
 refine mv 1 rfl (ne_ (cw_seq (cw_seq ?_)))
 by_cases hz0:n4=0
 · 
  have hm0:m=0:=len_wd_zero.1 (by omega)
  refine cw_region (mv 1 rfl (pu (v:= .int .i64 ((n4:Nat):Int)) rfl (by kernel_rfl) (wl_cmp rfl rfl rfl true (cb_eq_t (a:=n4) (b:=0) rfl rfl (by omega)) (by decide) (ne_ (cw_true rfl (sr (mv 2 rfl (ne_ (cw_ret (eo_thenR (eo_ret [.string (strB ([48])),I0] rfl ⟨rfl,rfl,trivial⟩ ?_)))))))))))
  have hstr:([48]:List Nat)=txtN base m:=by subst hm0;rfl
  exact⟨_,rfl,⟨_,_,rfl,(show Value.string _=Value.string _ from congrArg (fun l=>Value.string (strB l)) hstr),rfl⟩,hw1⟩
 · 
  have hm0:m≠0:=fun e=>hz0 (by rw [j4,e];rfl)
  refine cw_region (mv 1 rfl (pu (v:= .int .i64 ((n4:Nat):Int)) rfl (by kernel_rfl) (wl_cmp rfl rfl rfl false (cb_eq_f (a:=n4) (b:=0) rfl rfl (by omega)) (by decide) (ne_ (cw_false rfl (cw_skip (eo_then (sr (mv 1 rfl (wl_call rfl rfl (vs:= [.int .i64 ((base:Nat):Int)]) (by kernel_rfl) (by decide) (rx_piece hbl hbu) ?_))))))))))
  rintro _ v5 ⟨k8,p9,xr7,rfl,r7,e6⟩
  refine ret_intro ?_
  have hw2:=hw1.trans e6
  obtain⟨_,_,rfl,rfl,rfl⟩:=r7
  refine mv 1 rfl (pu (v:= .int .i64 ((k8:Nat):Int)) rfl (by kernel_rfl) (pu (v:= .int .u64 ((base^k8:Nat):Int)) rfl (by kernel_rfl) (mv 2 rfl (ne_ (sr (mv 3 rfl (pu (v:= .agg #[.int .i64 ((base:Nat):Int),.int .i64 ((k8:Nat):Int),.int .u64 ((base^k8:Nat):Int),S0,S0]) rfl (by kernel_rfl) (wl_box rfl rfl (vs:= [.int .i64 ((base:Nat):Int),.int .i64 ((k8:Nat):Int),.int .u64 ((base^k8:Nat):Int),S0,S0]) rfl (by decide) fun g11 v12 nb=>?_))))))))
  have hgl:=Nat.le_of_eq nb.at_
  have hle0:w.heap.size≤v5.heap.size:=hw2.size
  have hb14:=nb.bk
  have ge15:w.heap.size≤g11:=by rw [←nb.at_];exact hw2.size
  have e13:=nb.ext
  clear nb
  have hw3:=hw2.trans e13
  refine mv 1 rfl (ne_ (cw_seq (cw_seq ?_)))
  by_cases h12:n4>12
  · 
   refine cw_region (mv 1 rfl (pu (v:= .int .i64 ((n4:Nat):Int)) rfl (by kernel_rfl) (wl_cmp rfl rfl rfl true (cb_gt_t (a:=n4) (b:=12) rfl rfl (by omega)) (by decide) (ne_ (cw_true rfl (cw_seq ?_))))))
   have hk1:1≤k8:=by refine Nat.pos_of_ne_zero (fun e=>?_);have:=p9.gt;rw [e,Nat.zero_add,Nat.pow_one] at this;omega
   have hu2:2≤base^k8:=Nat.le_trans hbl (Nat.le_trans (Nat.le_of_eq (Nat.pow_one base).symm) (Nat.pow_le_pow_right (by omega) hk1))
   have hum:=p9.le
   refine cw_region (mv 1 rfl (wl_bslice rfl rfl (by decide) (k:=1) (e:=50) [.int .u64 ((base^k8:Nat):Int)] (fun _=>by kernel_rfl) fun g16 v17 nb=>?_))
   have hb18:=nb.bk
   have e19:=nb.ext
   clear nb
   have hw4:=hw3.trans e19
   refine mv 1 rfl (ne_ (cw_block ?_))
   refine cw_loop (T:=World×Nat×Option Addr×Nat×Nat×Option Addr×Nat)
    (fun⟨wr,j,QA,qn,qc,PA,pc⟩=> [(0,.slice A4 n4 c4),(1,.int .i64 ((base:Nat):Int)),(6,.int .i64 ((k8:Nat):Int)),(7,.int .u64 ((base^k8:Nat):Int)),(8,.pointer (some ⟨g11,0,none⟩)),(9,.slice QA qn qc)])
    (fun⟨wr,j,QA,qn,qc,PA,pc⟩=>wr)
    (fun⟨wr,j,QA,qn,qc,PA,pc⟩=>(Ext w wr)∧(j=0∨(base^k8)^2^(j-1)≤m)∧(qn=(wd ((base^k8)^2^j)).length)∧(qn≤8388608)∧(Own wr 0 50 1 QA qn qc ((wd ((base^k8)^2^j)).map W64))∧(Bk wr g11 118 [.int .i64 ((base:Nat):Int),.int .i64 ((k8:Nat):Int),.int .u64 ((base^k8:Nat):Int),.slice PA j pc,S0])∧(Pw wr v5.heap.size PA j pc (base^k8))∧(v5.heap.size≤wr.heap.size)∧(Own wr 0 50 1 A4 n4 c4 ((wd m).map W64)))
    (fun⟨wr,j,QA,qn,qc,PA,pc⟩=>64-j)
    (⟨v17,0,(some ⟨g16,0,none⟩),1,1,none,0⟩:World×Nat×Option Addr×Nat×Nat×Option Addr×Nat) ⟨hw4,(Or.inl rfl),(by rw [Nat.pow_zero,Nat.pow_one];exact len1 hum (by omega)),(by decide),(by rw [Nat.pow_zero,Nat.pow_one];exact (bw_own hb18 hum (by omega))),(hb14.ext e19),(Pw.nil _ _ _),((Nat.le_trans e13.size e19.size)),((o4.ext (e6.trans (e13.trans e19)))).mono (Nat.zero_le _)⟩ rfl ⟨rfl,rfl,rfl,rfl,rfl,rfl,trivial⟩ ?_
   rintro⟨wr,j,QA,qn,qc,PA,pc⟩ ⟨hw1,hjm,hqn,hq8,hq,b_g,hPw,hpb0,hoa⟩
   refine cw_re [(0,.slice A4 n4 c4),(1,.int .i64 ((base:Nat):Int)),(6,.int .i64 ((k8:Nat):Int)),(7,.int .u64 ((base^k8:Nat):Int)),(8,.pointer (some ⟨g11,0,none⟩)),(9,.slice QA qn qc)] wr rfl ⟨rfl,rfl,rfl,rfl,rfl,rfl,trivial⟩ (cw_seq (cw_seq ?_))
   have hj30:j≤29:=by rcases hjm with h | h;(· omega);(· have:=ip_small (pow_le_bits hu2 h hml) (by omega);omega)
   by_cases hle:(base^k8)^2^j≤m
   · 
    have hsq:(wd ((base^k8)^2^j*(base^k8)^2^j)).length≤8388608:=len_sq (Nat.le_trans (len_wd_mono hle) hml)
    refine cw_region (mv 2 rfl (cl (vs:= [.slice QA qn qc,.slice A4 n4 c4]) hw1 (rx_Cmp hq.wi (by omega) hoa.wi (by omega)) rfl (by kernel_rfl) fun xr22 v20 r22 e21 hw2=>?_))
    obtain rfl:=r22
    refine wl_cmp rfl rfl rfl true (cmp3_leT hle) (by decide) (ne_ (cw_true rfl (cw_skip (eo_then (cw_block (sr (mv 2 rfl (pf g11 0 rfl (by kernel_rfl) (pf g11 3 rfl (by kernel_rfl) (wl_load rfl rfl (load_cell (fun _=>by kernel_rfl) (b_g.ext e21) rfl) (by decide) (mv 1 rfl (wl_bslice rfl rfl (by decide) (k:=1) (e:=22) [.slice QA qn qc] (fun _=>by kernel_rfl) fun g23 v24 nb=>?_))))))))))))
    have hb25:=nb.bk
    have e26:=nb.ext
    clear nb
    have hw3:=hw2.trans e26
    refine wl_appP rfl rfl rfl (hPw.ext (e21.trans e26)) (Nat.le_trans hpb0 ((Nat.le_trans e21.size e26.size))) hb25 hqn hq8 (hq.ext (e21.trans e26)) (by omega) (by decide) fun A27 c28 v29 pw30 uo31 ⟨us32,ow33⟩=>?_
    have hw4:=uo31.ext hw3 (fun p hp=>Nat.le_trans hle0 (ow33.block p hp).1)
    refine pf g11 0 rfl (by kernel_rfl) (pf g11 3 rfl (by kernel_rfl) ?_)
    have hb35:=((b_g.ext (e21.trans e26)).updO uo31 (own_ne ow33 (b_g.ext (e21.trans e26)) (by decide)))
    refine wl_stored1 rfl rfl rfl (fun _=>by kernel_rfl) rfl hb35 (bq rfl) rfl [.int .i64 ((base:Nat):Int),.int .i64 ((k8:Nat):Int),.int .u64 ((base^k8:Nat):Int),.slice A27 (j+1) c28,S0] rfl fun v34 hb36 u37 hs38=>?_
    have hw5:=u37.ext hw4 ge15
    refine ne_ (cw_seq (cw_seq ?_))
    by_cases hbig:2*qn>n4+2
    · 
     refine cw_region (mv 1 rfl (pu (v:= .int .i64 ((qn:Nat):Int)) rfl (by kernel_rfl) (wl_ar rfl rfl rfl ((2*qn:Nat):Int) (ai_mul (a:=2) (b:=qn) rfl rfl (by omega)) (by decide) (mv 1 rfl (pu (v:= .int .i64 ((n4:Nat):Int)) rfl (by kernel_rfl) (wl_ar rfl rfl rfl ((n4+2:Nat):Int) (ai_add (a:=n4) (b:=2) rfl rfl (by omega)) (by decide) (wl_cmp rfl rfl rfl true (cb_gt_t (a:=2*qn) (b:=n4+2) rfl rfl (by omega)) (by decide) (ne_ (cw_true rfl (cw_exit (eo_thenX (eo_block_far (by decide) (eo_loopX ?_)))))))))))))
     refine eo_block_here (eo_then (sr (mv 3 rfl (pf g11 0 rfl (by kernel_rfl) (pf g11 3 rfl (by kernel_rfl) (wl_load rfl rfl (load_cell (fun _=>by kernel_rfl) hb36 rfl) (by decide) (pu (v:= .int .i64 (((j+1):Nat):Int)) rfl (by kernel_rfl) (wl_ar rfl rfl rfl (((j+1:Nat):Int)-1) (ar_i64s rfl (by omega) (by omega)) (by decide) (wl_call rfl rfl (vs:= [.pointer (some ⟨g11,0,none⟩),.slice A4 n4 c4,.int .i64 (((j+1:Nat):Int)-1),I0]) (by kernel_rfl) (by decide) (rx_halves (j+1) (lb:=v5.heap.size) (bs:= []) rfl (hS.ext hw5) (Nat.lt_of_lt_of_le (World.block_lt_of_cell? w _ (hS 0 (by decide))) hle0) hbl hbu hb36 (Own.nil _ _ _ _) hgl (Nat.le_trans hpb0 ((Nat.le_trans (Nat.le_trans (Nat.le_trans e21.size e26.size) uo31.size) u37.by_.size))) (((hoa.ext (e21.trans e26)).updOT ow33 (by decide) uo31).updT hb35 (by decide) u37).wi (by omega) rfl p9 (by decide) hlen0 ((pw30.updT hb35 u37 (by decide) (by decide)).mono (Nat.zero_le _)) (Nat.le_refl _) (by omega)) ?_)))))))))
     rintro _ v39 ⟨rfl,A40,n41,c42,hb43,ho44,uw45,kp46⟩
     refine ret_intro ?_
     have hw6:=uw45.ext hw5 hle0
     refine ne_ (sr (mv 1 rfl (pf g11 0 rfl (by kernel_rfl) (pf g11 4 rfl (by kernel_rfl) (wl_load rfl rfl (load_cell (fun _=>by kernel_rfl) hb43 rfl) (by decide) (wl_toStr rfl rfl ho44 (by decide) (mv 2 rfl (ne_ (cw_ret (eo_ret [.string (strB ([]++txt (padTo (db base m) 0))),I0] rfl ⟨rfl,rfl,trivial⟩ ?_))))))))))
     have hstr:([]++txt (padTo (db base m) 0):List Nat)=txtN base m:=by rw [List.nil_append,padTo_of (Nat.zero_le _),txtN,if_neg hm0]
     exact⟨_,rfl,⟨_,_,rfl,(show Value.string _=Value.string _ from congrArg (fun l=>Value.string (strB l)) hstr),rfl⟩,hw6⟩
    · 
     refine cw_region (mv 1 rfl (pu (v:= .int .i64 ((qn:Nat):Int)) rfl (by kernel_rfl) (wl_ar rfl rfl rfl ((2*qn:Nat):Int) (ai_mul (a:=2) (b:=qn) rfl rfl (by omega)) (by decide) (mv 1 rfl (pu (v:= .int .i64 ((n4:Nat):Int)) rfl (by kernel_rfl) (wl_ar rfl rfl rfl ((n4+2:Nat):Int) (ai_add (a:=n4) (b:=2) rfl rfl (by omega)) (by decide) (wl_cmp rfl rfl rfl false (cb_gt_f (a:=2*qn) (b:=n4+2) rfl rfl (by omega)) (by decide) (ne_ (cw_false rfl (cw_skip (eo_then (cw_region (mv 1 rfl ?_)))))))))))))
     refine cl (vs:= [.slice QA qn qc]) hw5 (rx_Square (Nat.zero_le _) (((hq.ext (e21.trans e26)).updOT ow33 (by decide) uo31).updT hb35 (by decide) u37).wi (by omega)) rfl (by kernel_rfl) fun xr49 v47 r49 e48 hw6=>?_
     obtain⟨A50,n50,c50,rfl,j50,o50⟩:=r49
     refine mv 1 rfl (wl_nil (eo_block_normal (eo_round (⟨v47,j+1,A50,n50,c50,A27,c28⟩:World×Nat×Option Addr×Nat×Nat×Option Addr×Nat) ⟨hw6,(Or.inr hle),(by rw [j50,pow_sq]),(by rw [j50];exact hsq),(by rw [←pow_sq];exact o50),(hb36.ext e48),((pw30.updT hb35 u37 (by decide) (by decide)).ext e48),(Nat.le_trans hpb0 ((Nat.le_trans (Nat.le_trans (Nat.le_trans (Nat.le_trans e21.size e26.size) uo31.size) u37.by_.size) e48.size))),((((hoa.ext (e21.trans e26)).updOT ow33 (by decide) uo31).updT hb35 (by decide) u37).ext e48)⟩ (show 64-(j+1)<64-j by omega) rfl ⟨rfl,rfl,rfl,rfl,rfl,rfl,trivial⟩)))
   · 
    refine cw_region (mv 2 rfl (cl (vs:= [.slice QA qn qc,.slice A4 n4 c4]) hw1 (rx_Cmp hq.wi (by omega) hoa.wi (by omega)) rfl (by kernel_rfl) fun xr53 v51 r53 e52 hw2=>?_))
    obtain rfl:=r53
    refine wl_cmp rfl rfl rfl false (cmp3_leF (by omega)) (by decide) (ne_ (cw_false rfl (cw_exit (eo_thenX (eo_loopX (eo_block_here (eo_then (sr (mv 3 rfl (pf g11 0 rfl (by kernel_rfl) (pf g11 3 rfl (by kernel_rfl) (wl_load rfl rfl (load_cell (fun _=>by kernel_rfl) (b_g.ext e52) rfl) (by decide) (pu (v:= .int .i64 ((j:Nat):Int)) rfl (by kernel_rfl) ?_)))))))))))))
    refine wl_ar rfl rfl rfl (((j:Nat):Int)-1) (ar_i64s rfl (by omega) (by omega)) (by decide) (wl_call rfl rfl (vs:= [.pointer (some ⟨g11,0,none⟩),.slice A4 n4 c4,.int .i64 (((j:Nat):Int)-1),I0]) (by kernel_rfl) (by decide) (rx_halves (j) (lb:=v5.heap.size) (bs:= []) rfl (hS.ext hw2) (Nat.lt_of_lt_of_le (World.block_lt_of_cell? w _ (hS 0 (by decide))) hle0) hbl hbu (b_g.ext e52) (Own.nil _ _ _ _) hgl (Nat.le_trans hpb0 (e52.size)) (hoa.ext e52).wi (by omega) rfl p9 (by decide) hlen0 ((hPw.ext e52).mono (Nat.zero_le _)) (Nat.le_refl _) (by omega)) ?_)
    rintro _ v54 ⟨rfl,A55,n56,c57,hb58,ho59,uw60,kp61⟩
    refine ret_intro ?_
    have hw3:=uw60.ext hw2 hle0
    refine ne_ (sr (mv 1 rfl (pf g11 0 rfl (by kernel_rfl) (pf g11 4 rfl (by kernel_rfl) (wl_load rfl rfl (load_cell (fun _=>by kernel_rfl) hb58 rfl) (by decide) (wl_toStr rfl rfl ho59 (by decide) (mv 2 rfl (ne_ (cw_ret (eo_ret [.string (strB ([]++txt (padTo (db base m) 0))),I0] rfl ⟨rfl,rfl,trivial⟩ ?_))))))))))
    have hstr:([]++txt (padTo (db base m) 0):List Nat)=txtN base m:=by rw [List.nil_append,padTo_of (Nat.zero_le _),txtN,if_neg hm0]
    exact⟨_,rfl,⟨_,_,rfl,(show Value.string _=Value.string _ from congrArg (fun l=>Value.string (strB l)) hstr),rfl⟩,hw3⟩
  · 
   refine cw_region (mv 1 rfl (pu (v:= .int .i64 ((n4:Nat):Int)) rfl (by kernel_rfl) (wl_cmp rfl rfl rfl false (cb_gt_f (a:=n4) (b:=12) rfl rfl (by omega)) (by decide) (ne_ (cw_false rfl (cw_skip (eo_then (sr (mv 3 rfl (pf g11 0 rfl (by kernel_rfl) (pf g11 3 rfl (by kernel_rfl) (wl_load rfl rfl (load_cell (fun _=>by kernel_rfl) hb14 rfl) (by decide) (pu (v:= .int .i64 0) rfl (by kernel_rfl) ?_)))))))))))))
   refine wl_ar rfl rfl rfl (((0:Nat):Int)-1) (ar_i64s rfl (by omega) (by omega)) (by decide) (wl_call rfl rfl (vs:= [.pointer (some ⟨g11,0,none⟩),.slice A4 n4 c4,.int .i64 (((0:Nat):Int)-1),I0]) (by kernel_rfl) (by decide) (rx_halves 0 (lb:=v5.heap.size) (bs:= []) rfl (hS.ext hw3) (Nat.lt_of_lt_of_le (World.block_lt_of_cell? w _ (hS 0 (by decide))) hle0) hbl hbu hb14 (Own.nil _ _ _ _) hgl (e13.size) (o4.ext (e6.trans e13)).wi (by omega) rfl p9 (by decide) hlen0 (Pw.nil _ _ _) (Nat.le_refl _) (by omega)) ?_)
   rintro _ v62 ⟨rfl,A63,n64,c65,hb66,ho67,uw68,kp69⟩
   refine ret_intro ?_
   have hw4:=uw68.ext hw3 hle0
   refine ne_ (sr (mv 1 rfl (pf g11 0 rfl (by kernel_rfl) (pf g11 4 rfl (by kernel_rfl) (wl_load rfl rfl (load_cell (fun _=>by kernel_rfl) hb66 rfl) (by decide) (wl_toStr rfl rfl ho67 (by decide) (mv 2 rfl (ne_ (cw_ret (eo_ret [.string (strB ([]++txt (padTo (db base m) 0))),I0] rfl ⟨rfl,rfl,trivial⟩ ?_))))))))))
   have hstr:([]++txt (padTo (db base m) 0):List Nat)=txtN base m:=by rw [List.nil_append,padTo_of (Nat.zero_le _),txtN,if_neg hm0]
   exact⟨_,rfl,⟨_,_,rfl,(show Value.string _=Value.string _ from congrArg (fun l=>Value.string (strB l)) hstr),rfl⟩,hw4⟩
theorem Rune.eq {bs:List Nat}{p r z:Nat}(h:Rune bs p r z) (hr:r<128):z=1∧r=bs.getD p 0:=by
 by_cases h1:bs.getD p 0<128
 ·exact⟨(h.low h1).2,(h.low h1).1⟩
 ·have:=h.high (by omega);omega
def grp:Bool→List Nat→Option (List Nat)
 | b,[]=>if b then some [] else none
 | b,c::r=>if c=95∧b=true then grp false r else if dv c<10 then (grp true r).map (c:: ·) else none
set_option maxHeartbeats 4000000 in
theorem rx_DecF {w:World}{A:Option Addr}{an ac m:Nat}(hS:Signs w) (hx:Wi w A an ac m) (hal:an≤4194304):
    Calls Tryd.prog 50 #[.slice A an ac] w (Gv w (Is (.string (strB (txtN 10 m))))):=by
 refine sx_enter Tryd.func50 rfl (n:=11) rfl (bq rfl) (args:= [.slice A an ac]) (cw_keep [(0,.slice A an ac)] ⟨rfl,trivial⟩ (sr (mv 1 rfl (ne_ (sr (mv 1 rfl (cl (vs:= [.slice A an ac,.int .i64 10]) (Ext.refl w) (rx_Text (base:=10) (hS.ext (Ext.refl w)) hx (by omega) (by decide) (by decide)) rfl (by kernel_rfl) fun xr3 v1 r3 e2 hw1=>?_)))))))
 obtain⟨_,_,rfl,rfl,rfl⟩:=r3
 refine mv 1 rfl (pu (v:= .string (strB (txtN 10 m))) rfl (by kernel_rfl) (pu (v:= .int .i64 0) rfl (by kernel_rfl) (mv 2 rfl (ne_ (sr (mv 2 rfl (ne_ (cw_ret (eo_ret [.string (strB (txtN 10 m))] rfl ⟨rfl,trivial⟩ ?_)))))))))
 exact⟨_,rfl,rfl,hw1⟩
set_option maxHeartbeats 4000000 in
theorem rx_ReadDec_good {w:World}{bs:List Nat}(hbs:∀b,b∈bs→b<256) (hlen:bs.length≤17179869184) (hg:Good 10 bs):
    Calls Tryd.prog 57 #[.string (strB bs)] w (Gv w (T2 (WR w.heap.size (vald 10 (bs.map dv))) (Is (.int .i64 0)))):=by
 refine sx_enter Tryd.func57 rfl (n:=8) rfl (bq rfl) (args:= [.string (strB bs)]) (cw_keep [(0,.string (strB bs))] ⟨rfl,trivial⟩ (sr (mv 2 rfl (ne_ (sr (mv 1 rfl (cl (vs:= [.string (strB bs),.int .i64 10]) (Ext.refl w) (rx_Read_good (Ext.refl w).size (base:=10) (by decide) (by decide) hbs hlen hg) rfl (by kernel_rfl) fun xr3 v1 r3 e2 hw1=>?_)))))))
 obtain⟨_,_,rfl,⟨A5,n5,c5,rfl,j5,o5⟩,rfl⟩:=r3
 refine pu (v:= .slice A5 n5 c5) rfl (by kernel_rfl) (pu (v:= .int .i64 0) rfl (by kernel_rfl) (mv 2 rfl (ne_ (cw_ret (eo_ret [.slice A5 n5 c5,I0] rfl ⟨rfl,rfl,trivial⟩ ?_)))))
 exact⟨_,rfl,⟨_,_,rfl,⟨_,_,_,rfl,j5,o5⟩,rfl⟩,hw1⟩
set_option maxHeartbeats 4000000 in
theorem rx_ReadDec_bad {w:World}{bs:List Nat}(hbs:∀b,b∈bs→b<256) (hlen:bs.length≤17179869184) (hg:¬Good 10 bs):
    Calls Tryd.prog 57 #[.string (strB bs)] w (Gv w (T2 (Is (.slice none 0 0)) (Is (.int .i64 7)))):=by
 refine sx_enter Tryd.func57 rfl (n:=8) rfl (bq rfl) (args:= [.string (strB bs)]) (cw_keep [(0,.string (strB bs))] ⟨rfl,trivial⟩ (sr (mv 2 rfl (ne_ (sr (mv 1 rfl (cl (vs:= [.string (strB bs),.int .i64 10]) (Ext.refl w) (rx_Read_bad (base:=10) (by decide) (by decide) hbs hlen hg) rfl (by kernel_rfl) fun xr3 v1 r3 e2 hw1=>?_)))))))
 obtain⟨_,_,rfl,rfl,rfl⟩:=r3
 refine pu (v:= .slice none 0 0) rfl (by kernel_rfl) (pu (v:= .int .i64 7) rfl (by kernel_rfl) (mv 2 rfl (ne_ (cw_ret (eo_ret [S0,.int .i64 7] rfl ⟨rfl,rfl,trivial⟩ ?_)))))
 exact⟨_,rfl,⟨_,_,rfl,rfl,rfl⟩,hw1⟩
end Go.Proofs.YtipklngcpmkfhaaDoor

namespace Go.Proofs.YtipklngcpmkfhaaDoor
theorem dv_sgn {d:Nat}(h:d<36):dv (sgn d)=d:=by
 unfold dv sgn
 by_cases h1:d<10
 ·rw [if_pos h1,if_pos (by omega)];omega
 ·rw [if_neg h1,if_neg (by omega),if_pos (by omega)];omega
theorem vald_rev (b:Nat) (l:List Nat):vald b l.reverse=nb b l:=by
 induction l with
 | nil=>rfl
 | cons x r ih=>rw [List.reverse_cons,vald_snoc,ih,nb_cons,Nat.mul_comm,Nat.add_comm]
theorem map_dv_txt {b:Nat}(hb2:b≤36){l:List Nat}(h:Wfb b l):(txt l).map dv=l.reverse:=by
 unfold txt
 rw [List.map_map]
 have:∀x,x∈l.reverse→(dv∘sgn) x=x:=fun x hx=>dv_sgn (by have:=h x (List.mem_reverse.1 hx);omega)
 rw [List.map_congr_left this,List.map_id']
theorem vald_txtN {b m:Nat}(hb:2≤b) (hb2:b≤36):vald b ((txtN b m).map dv)=m:=by
 unfold txtN
 split
 ·rename_i h;subst h;show vald b [dv 48]=0;rw [show dv 48=0 by decide];unfold vald;simp
 ·rw [map_dv_txt hb2 (Wfb_db hb m),vald_rev,nb_db hb]
theorem db_push {b v d:Nat}(hb:2≤b) (hd:d<b) (h:v*b+d≠0):db b (v*b+d)=d::db b v:=by
 rw [db_pos hb h]
 have e1:(v*b+d)%b=d:=by rw [Nat.add_comm,Nat.add_mul_mod_self_right,Nat.mod_eq_of_lt hd]
 have e2:(v*b+d)/b=v:=by rw [Nat.add_comm,Nat.add_mul_div_right _ _ (by omega),Nat.div_eq_of_lt hd,Nat.zero_add]
 rw [e1,e2]
end Go.Proofs.YtipklngcpmkfhaaDoor

namespace Go.Proofs.YtipklngcpmkfhaaDoor
open Go.RowKit
def dgs:Nat→Nat→List Nat
 | 0,_=> []
 | n+1,v=>dgs n (v/10)++ [48+v%10]
theorem dgs_len:∀n v,(dgs n v).length=n
 | 0,_=>rfl
 | n+1,v=>by simp [dgs,dgs_len n]
theorem dgs_digit {n v c:Nat}(h:c∈dgs n v):48≤c∧c≤57:=by
 induction n generalizing v with
 | zero=>cases h
 | succ n ih=>
  rw [dgs] at h
  rcases List.mem_append.1 h with h | h
  ·exact ih h
  ·rw [List.mem_singleton] at h;omega
theorem dv_digit {c:Nat}(h:48≤c∧c≤57):dv c=c-48:=by unfold dv;rw [if_pos h]
theorem txtN_dgs:∀{n m:Nat},0<m→10^n≤m→m<10^(n+1)→txtN 10 m=dgs (n+1) m
 | 0,m,h0,h1,h2=>by
  have hm:m<10:=by simpa using h2
  have e:=db_push (b:=10) (v:=0) (d:=m) (by decide) hm (by omega)
  rw [Nat.zero_mul,Nat.zero_add] at e
  have e0:db 10 0= []:=rfl
  rw [txtN,if_neg (by omega),e,e0]
  show [sgn m]= [48+m%10]
  rw [Nat.mod_eq_of_lt hm,sgn,if_pos hm]
 | n+1,m,h0,h1,h2=>by
  have hp:0<10^n:=Nat.pow_pos (by decide)
  have hq1:10^n≤m/10:=by rw [Nat.pow_succ] at h1;omega
  have hq2:m/10<10^(n+1):=by rw [Nat.pow_succ] at h2;omega
  have ih:=txtN_dgs (m:=m/10) (by omega) hq1 hq2
  have e:=db_push (b:=10) (v:=m/10) (d:=m%10) (by decide) (Nat.mod_lt _ (by decide)) (by omega)
  rw [show m/10*10+m%10=m by omega] at e
  rw [txtN,if_neg (by omega)] at ih
  rw [txtN,if_neg (by omega),e,dgs,←ih]
  show ((m%10)::db 10 (m/10)).reverse.map sgn=_
  rw [List.reverse_cons,List.map_append]
  show txt (db 10 (m/10))++ [sgn (m%10)]=_
  rw [sgn,if_pos (Nat.mod_lt _ (by decide))]
theorem digits_ex:∀m:Nat,0<m→∃n,10^n≤m∧m<10^(n+1):=by
 intro m
 induction m using Nat.strongRecOn with
 | _ m ih=>
  intro h
  by_cases h1:m<10
  ·exact⟨0,by rw [Nat.pow_zero];exact h,by simpa using h1⟩
  ·obtain⟨n,h2,h3⟩:=ih (m/10) (by omega) (by omega)
   refine⟨n+1,?_,?_⟩
   ·rw [Nat.pow_succ];omega
   ·rw [Nat.pow_succ];omega
theorem getD_mem0 {l:List Nat}{i:Nat}(h:i<l.length):l.getD i 0∈l:=by
 rw [List.getD_eq_getElem?_getD,List.getElem?_eq_getElem h];exact List.getElem_mem h
def Digs (l:List Nat):Prop:=∀c,c∈l→48≤c∧c≤57
theorem Digs.good {l:List Nat}(h:Digs l) (h0:l≠ []):Good 10 l:=⟨h0,fun c hc=>by rw [dv_digit (h c hc)];have:=h c hc;omega⟩
theorem txtN_digs {m:Nat}:Digs (txtN 10 m)∧txtN 10 m≠ []:=by
 by_cases h:m=0
 ·subst h;exact⟨by unfold Digs;decide,by decide⟩
 ·obtain⟨n,h1,h2⟩:=digits_ex m (by omega)
  rw [txtN_dgs (by omega) h1 h2]
  exact⟨fun c hc=>dgs_digit hc,fun e=>by have:=congrArg List.length e;rw [dgs_len] at this;simp at this⟩
theorem txtZ_sg (x:Int):txtZ x=(if decide (x<0) then [45] else [])++(txtN 10 x.natAbs++ []):=by
 unfold txtZ
 rw [List.append_nil]
 by_cases h:x<0
 ·rw [if_pos h,decide_eq_true h];rfl
 ·rw [if_neg h,decide_eq_false h];rfl
theorem vald_digs10 {m:Nat}:vald 10 ((txtN 10 m).map dv)=m:=vald_txtN (by decide) (by decide)
end Go.Proofs.YtipklngcpmkfhaaDoor

namespace Go.Proofs.YtipklngcpmkfhaaDoor
open Go.ChangeShapes Go.WideShapes Go.ChangeAt Go.RowKit
theorem strB_inj {a b:List Nat}(ha:∀x,x∈a→x<256) (hb:∀x,x∈b→x<256) (h:strB a=strB b):a=b:=by
 have hl:a.length=b.length:=by rw [←strB_size a,h,strB_size]
 refine List.ext_getElem hl fun i h1 h2=>?_
 have e1:=strB_get ha h1 (by rw [strB_size];exact h1)
 have e2:=strB_get hb h2 (by rw [strB_size];exact h2)
 have e3:((strB a)[i]'(by rw [strB_size];exact h1)).toNat=((strB b)[i]'(by rw [strB_size];exact h2)).toNat:=by
  congr 1;simp only [h]
 rw [e1,e2,List.getD_eq_getElem?_getD,List.getElem?_eq_getElem h1,List.getD_eq_getElem?_getD,List.getElem?_eq_getElem h2] at e3
 exact e3
def strE (o:BinOp) (a b:List Nat):Option Bool:=match o with
 | .eql=>some (decide (a=b))
 | .neq=>some (!decide (a=b))
 | _=>none
theorem toList_inj {a b:ByteArray}(h:a.toList=b.toList):a=b:=by
 rw [ByteArray.toList_eq,ByteArray.toList_eq] at h
 exact Go.WideShapes.bytes_inj h
section
variable {P:Program}{Q:Exit→Act→World→Prop}{n:Nat}{l:Fr}{w:World}{ops:Array Oper}{rest:List Oper}{d:Nat}{ty:TypeId}{pos:String}{af:Array Edge}{gd:Option (Nat×Bool)}
theorem run_streq {t:TypeId}{x y:Operand}{o:BinOp}{a b:List Nat}{r:Bool}(ha:∀x,x∈a→x<256) (hb:∀x,x∈b→x<256) (hr:strE o a b=some r):
  ((do eqGuard o t x y (.string (strB a)) (.string (strB b));binOp o t (.string (strB a)) (.string (strB b))):Sem Value).run P w= .ok (.bool r) w:=by
 have key:((strB a).toList==(strB b).toList)=decide (a=b):=by
  by_cases h:a=b
  ·subst h;simp
  ·rw [decide_eq_false h,beq_eq_false_iff_ne]
   exact fun e=>h (strB_inj ha hb (toList_inj e))
 cases o <;> simp only [strE,reduceCtorEq,Option.some.injEq] at hr
 ·subst hr;simp [eqGuard,binOp,Op.stringOp,key]
 ·subst hr;simp [eqGuard,binOp,Op.stringOp,key]
theorem wl_streq {o:BinOp}{t t':TypeId}{x y:Operand}{a b:List Nat}(hw:guardB ops l gd=some true) (hx:evo l x=some (.string (strB a))) (hy:evo l y=some (.string (strB b))) (ha:∀x,x∈a→x<256) (hb:∀x,x∈b→x<256) (r:Bool) (hr:strE o a b=some r) (hn:d<n)
  (h:wl P ops Q n rest ((d,.bool r)::l) w):wl P ops Q n (⟨some d,.binOp o t x y t',ty,pos,af,gd⟩::rest) l w:=
 wl_val hw hn (fun a' ha'=>by
  have e:((do eqGuard o t x y (a'.eval x) (a'.eval y);binOp o t (a'.eval x) (a'.eval y)):Sem Value).run P w= .ok (.bool r) w:=by
   rw [ha'.ev hx,ha'.ev hy];exact run_streq ha hb hr
  show ((((do eqGuard o t x y (a'.eval x) (a'.eval y);binOp o t (a'.eval x) (a'.eval y)):Sem Value)>>=fun r=>pure (Next.value r)):Sem Next).run P w=_
  rw [Sem.run_bind,e];rfl) h
end
end Go.Proofs.YtipklngcpmkfhaaDoor

namespace Go.Proofs.YtipklngcpmkfhaaDoor
open Go.RowKit
theorem strE_eql_t {a b:List Nat}(h:a=b):strE .eql a b=some true:=by simp [strE,h]
theorem strE_eql_f {a b:List Nat}(h:a≠b):strE .eql a b=some false:=by simp [strE,h]
theorem len_wd_dv {base:Nat}{bs:List Nat}(hbl:2≤base) (hbu:base≤36) (h:∀c,c∈bs→dv c<base):(wd (vald base (bs.map dv))).length≤bs.length:=by
 have:=len_vald (b:=base) (by omega) hbu (dig_map h)
 rwa [List.length_map] at this
end Go.Proofs.YtipklngcpmkfhaaDoor

namespace Go.Proofs.YtipklngcpmkfhaaDoor
def twice:List Nat→Bool
 | []=>false
 | c::r=>(decide (c=95)&&decide (r.headD 0=95))||twice r
def mixed (l:List Nat):Prop:=∀c,c∈l→dv c<10∨c=95
theorem grp_mixed {l:List Nat}(hm:mixed l):∀b,grp b l=(if (b=false∧l.headD 95=95)∨twice l=true∨(l≠ []∧l.getLast?=some 95) then none else some (l.filter (· ≠95))):=by
 induction l with
 | nil=>
  intro b
  cases b <;> simp [grp,twice]
 | cons c r ih=>
  intro b
  have ih':=ih (fun x hx=>hm x (by simp [hx]))
  by_cases hc:c=95
  ·subst hc
   cases b with
   | false=>
    rw [grp,if_neg (fun h=>by cases h.2),if_neg (by decide),if_pos (Or.inl ⟨rfl,rfl⟩)]
   | true=>
    rw [grp,if_pos ⟨rfl,rfl⟩,ih' false]
    cases r with
    | nil=>simp [twice]
    | cons x r'=>
     have e1:(95::x::r').getLast?=(x::r').getLast?:=by simp [List.getLast?_cons_cons]
     have e2:twice (95::x::r')=(decide (x=95)||twice (x::r')):=by rw [twice];simp
     rw [e1,e2]
     have e3:(95::x::r').filter (· ≠95)=(x::r').filter (· ≠95):=by rw [List.filter_cons_of_neg (by simp)]
     rw [e3]
     by_cases hx:x=95
     ·simp [hx]
     ·simp [hx]
  ·have hd:dv c<10:=by
    rcases hm c (by simp) with h | h
    ·exact h
    ·exact absurd h hc
   rw [grp,if_neg (fun h=>hc h.1),if_pos hd,ih' true]
   have e3:(c::r).filter (· ≠95)=c::r.filter (· ≠95):=by rw [List.filter_cons_of_pos (by simp [hc])]
   have e2:twice (c::r)=twice r:=by rw [twice];simp [hc]
   rw [e3,e2]
   cases r with
   | nil=>simp [hc,twice]
   | cons x r'=>
    have e1:(c::x::r').getLast?=(x::r').getLast?:=by simp [List.getLast?_cons_cons]
    rw [e1]
    by_cases ht:twice (x::r')=true
    ·simp [ht]
    ·by_cases hl:(x::r').getLast?=some 95
     ·simp [hl]
     ·simp [ht,hl,hc]
structure Wide (d l:List Nat):Prop where
 mix:mixed l
 digits:l.filter (· ≠95)=d
 first:l.headD 95≠95
 last:l.getLast?≠some 95
theorem Wide.start {d:List Nat}(h0:d≠ []) (h:∀c,c∈d→dv c<10):Wide d d:=by
 have h95:∀c,c∈d→c≠95:=fun c hc e=>by have:=h c hc;rw [e] at this;exact absurd this (by decide)
 refine⟨fun c hc=>Or.inl (h c hc),?_,?_,?_⟩
 ·rw [List.filter_eq_self];intro c hc;simpa using h95 c hc
 ·cases d with
  | nil=>exact absurd rfl h0
  | cons x r=>exact h95 x (by simp)
 ·intro e
  exact h95 95 (List.mem_of_getLast? e) rfl
theorem Wide.put {d l:List Nat}(h:Wide d l){p:Nat}(hp:0<p) (hp2:p<l.length):Wide d (l.take p++ [95]++l.drop p):=by
 refine⟨fun c hc=>?_,?_,?_,?_⟩
 ·simp only [List.mem_append,List.mem_singleton] at hc
  rcases hc with (hc | hc) | hc
  ·exact h.mix c (List.mem_of_mem_take hc)
  ·exact Or.inr hc
  ·exact h.mix c (List.mem_of_mem_drop hc)
 ·rw [List.filter_append,List.filter_append]
  have:([95]:List Nat).filter (· ≠95)= []:=by decide
  rw [this,List.append_nil,←List.filter_append,List.take_append_drop]
  exact h.digits
 ·have h1:=h.first
  cases l with
  | nil=>simp at hp2
  | cons x r=>
   cases p with
   | zero=>omega
   | succ p=>simpa using h1
 ·obtain⟨x,hx⟩:∃x,l.getLast?=some x:=⟨_,List.getLast?_eq_some_getLast (fun e=>by rw [e] at hp2;simp at hp2)⟩
  rw [List.getLast?_append,List.getLast?_drop,if_neg (by omega),hx]
  have:=h.last
  rw [hx] at this
  simpa using this
theorem Wide.reads {d l:List Nat}(h:Wide d l) (ht:twice l=false):grp false l=some d:=by
 rw [grp_mixed h.mix,if_neg,h.digits]
 rintro (⟨_,h1⟩ | h1 | ⟨_,h1⟩)
 ·exact h.first h1
 ·rw [ht] at h1;cases h1
 ·exact h.last h1
theorem Wide.twice {d l:List Nat}(h:Wide d l) (ht:twice l=true):grp false l=none:=by
 rw [grp_mixed h.mix,if_pos (Or.inr (Or.inl ht))]
theorem Wide.behind {d l:List Nat}(h:Wide d l):grp false (l++ [95])=none:=by
 rw [grp_mixed,if_pos (Or.inr (Or.inr ⟨by simp,by simp⟩))]
 intro c hc
 rcases List.mem_append.1 hc with hc | hc
 ·exact h.mix c hc
 ·exact Or.inr (List.mem_singleton.1 hc)
end Go.Proofs.YtipklngcpmkfhaaDoor

namespace Go.Proofs.YtipklngcpmkfhaaDoor
open Go.ChangeShapes Go.WideShapes Go.ChangeAt Go.RowKit
theorem strB_extract (bs:List Nat) (i j:Nat):(strB bs).extract i j=strB ((bs.take j).drop i):=by
 refine ByteArray.ext ?_
 rw [ByteArray.data_extract]
 unfold strB
 rw [List.extract_toArray,List.extract_eq_take_drop,List.map_drop,List.map_take,List.drop_take]
theorem strB_to (bs:List Nat) (j:Nat):(strB bs).extract 0 j=strB (bs.take j):=by rw [strB_extract,List.drop_zero]
theorem strB_from (bs:List Nat) (i:Nat):(strB bs).extract i (strB bs).size=strB (bs.drop i):=by rw [strB_extract,strB_size,List.take_length]
section
variable {P:Program}{Q:Exit→Act→World→Prop}{n:Nat}{l:Fr}{w:World}{ops:Array Oper}{rest:List Oper}{d:Nat}{ty:TypeId}{pos:String}{af:Array Edge}{gd:Option (Nat×Bool)}
theorem run_sliceAt_str {t:TypeId}{s:ByteArray}{low high:Option Value}(ht:P.underlying t=some .string):(Instr.sliceAt t (.string s) low high none).run P w=(Instr.slice t (.string s) low high none).run P w:=by
 have hu:(underlying t).run P w= .ok .string w:=run_underlying ht w
 unfold Instr.sliceAt
 simp only [Sem.run_bind,hu,Result.andThen_ok]
theorem wl_strhi {x y:Operand}{t:TypeId}{bs:List Nat}{i:Nat}(hw:guardB ops l gd=some true) (hx:evo l x=some (.string (strB bs))) (hy:evo l y=some (.int .i64 (i:Int))) (ht:P.underlying t=some .string) (hi:i≤bs.length) (hn:d<n)
  (h:wl P ops Q n rest ((d,.string (strB (bs.take i)))::l) w):wl P ops Q n (⟨some d,.slice t x none (some y) none,ty,pos,af,gd⟩::rest) l w:=
 wl_val hw hn (fun a' ha=>by
  have e:(Instr.sliceAt t (a'.eval x) (Option.map a'.eval none) ((some y).map a'.eval) (Option.map a'.eval none)).run P w= .ok (.string (strB (bs.take i))) w:=by
   show (Instr.sliceAt t (a'.eval x) none (some (a'.eval y)) none).run P w=_
   rw [ha.ev hx,ha.ev hy,run_sliceAt_str ht,run_slice_string_h (ht:=ht) (kh:= .i64) (h:=(i:Int)) (h0:=by omega) (h2:=by rw [strB_size];omega),Int.toNat_natCast,strB_to]
  show ((Instr.sliceAt t (a'.eval x) (Option.map a'.eval none) ((some y).map a'.eval) (Option.map a'.eval none)>>=fun r=>pure (Next.value r):Sem Next)).run P w=_
  rw [Sem.run_bind,e];rfl) h
theorem wl_strlo {x y:Operand}{t:TypeId}{bs:List Nat}{i:Nat}(hw:guardB ops l gd=some true) (hx:evo l x=some (.string (strB bs))) (hy:evo l y=some (.int .i64 (i:Int))) (ht:P.underlying t=some .string) (hi:i≤bs.length) (hn:d<n)
  (h:wl P ops Q n rest ((d,.string (strB (bs.drop i)))::l) w):wl P ops Q n (⟨some d,.slice t x (some y) none none,ty,pos,af,gd⟩::rest) l w:=
 wl_val hw hn (fun a' ha=>by
  have e:(Instr.sliceAt t (a'.eval x) ((some y).map a'.eval) (Option.map a'.eval none) (Option.map a'.eval none)).run P w= .ok (.string (strB (bs.drop i))) w:=by
   show (Instr.sliceAt t (a'.eval x) (some (a'.eval y)) none none).run P w=_
   rw [ha.ev hx,ha.ev hy,run_sliceAt_str ht,run_slice_string_l (ht:=ht) (kl:= .i64) (l:=(i:Int)) (h0:=by omega) (h1:=by rw [strB_size];omega),Int.toNat_natCast,strB_from]
  show ((Instr.sliceAt t (a'.eval x) ((some y).map a'.eval) (Option.map a'.eval none) (Option.map a'.eval none)>>=fun r=>pure (Next.value r):Sem Next)).run P w=_
  rw [Sem.run_bind,e];rfl) h
end
end Go.Proofs.YtipklngcpmkfhaaDoor

namespace Go.Proofs.YtipklngcpmkfhaaDoor
open Go.RowKit
theorem g_zint_of_false {w:World}{b m n c:Nat}{A:Option Addr}(hn:n=(wd m).length) (ho:Own w b 50 1 A n c ((wd m).map W64)):Calls Tryd.prog 45 #[.bool false,.slice A n c] w (Gv w (ZR b ((m:Nat):Int))):=by
 refine (zint_of (s:=false) hn).mono ?_
 rintro e w' ⟨s',rfl,hs,hx⟩
 have e0:s'=false:=by rw [hs.out,sg_false];exact decide_eq_false (by omega)
 subst e0
 exact⟨_,rfl,⟨_,_,_,_,rfl,(Zr_nat hn ho).ext hx⟩,hx⟩
theorem g_zint_of_true {w:World}{b m n c:Nat}{A:Option Addr}(hn:n=(wd m).length) (ho:Own w b 50 1 A n c ((wd m).map W64)):Calls Tryd.prog 45 #[.bool true,.slice A n c] w (Gv w (ZR b (-((m:Nat):Int)))):=by
 refine (zint_of (s:=true) hn).mono ?_
 rintro e w' ⟨s',rfl,hs,hx⟩
 refine⟨_,rfl,⟨_,_,_,_,rfl,?_⟩,hx⟩
 exact (Zr_of (m:=m) (s:=true) (by rw [hs.out]) hn ho (sg_true m)).ext hx
def zng (bs:List Nat):Bool:=if bs.take 1= [43] then false else if bs.take 1= [45] then true else if bs.take 3= [226,136,146] then true else false
def ztl (bs:List Nat):List Nat:=if bs.take 1= [43] then bs.drop 1 else if bs.take 1= [45] then bs.drop 1 else if bs.take 3= [226,136,146] then bs.drop 3 else bs
def zval (bs:List Nat):Int:=if zng bs=true then-((vald 10 ((ztl bs).map dv):Nat):Int) else ((vald 10 ((ztl bs).map dv):Nat):Int)
set_option maxHeartbeats 4000000 in
theorem g_hasPrefixL {w:World}{bs ps:List Nat}(hbs:∀b,b∈bs→b<256) (hps:∀b,b∈ps→b<256):
    Calls Tryd.prog 94 #[.string (strB bs),.string (strB ps)] w (Gv w (Is (.bool (decide (bs.take ps.length=ps))))):=by
 refine sx_enter Tryd.func94 rfl (n:=18) rfl (bq rfl) (args:= [.string (strB bs),.string (strB ps)]) (cw_keep [(0,.string (strB bs)),(1,.string (strB ps))] ⟨rfl,rfl,trivial⟩ (sr (mv 1 rfl (ne_ (cw_seq ?_)))))
 by_cases hge:bs.length≥ps.length
 · 
  by_cases heq:bs.take ps.length=ps
  · 
   refine cw_region (mv 1 rfl (wl_pureE rfl rfl (v:= .int .i64 (((strB bs).size:Nat):Int)) (v':= .int .i64 ((bs.length:Nat):Int)) (by decide) (by kernel_rfl) (by rw [strB_size]) (mv 1 rfl (wl_pureE rfl rfl (v:= .int .i64 (((strB ps).size:Nat):Int)) (v':= .int .i64 ((ps.length:Nat):Int)) (by decide) (by kernel_rfl) (by rw [strB_size]) (wl_cmp rfl rfl rfl true (cb_ge_t (a:=bs.length) (b:=ps.length) rfl rfl (by omega)) (by decide) (mv 3 rfl (wl_pureE rfl rfl (v:= .int .i64 (((strB ps).size:Nat):Int)) (v':= .int .i64 ((ps.length:Nat):Int)) (by decide) (by kernel_rfl) (by rw [strB_size]) (wl_strhi (bs:=bs) (i:=ps.length) rfl rfl rfl Tryd.underlying9 (by omega) (by decide) (mv 1 rfl (wl_streq (a:=bs.take ps.length) (b:=ps) rfl rfl rfl (fun b hb=>hbs b (List.mem_of_mem_take hb)) hps true (strE_eql_t (heq)) (by decide) (pu (v:= .bool true) rfl (by kernel_rfl) (mv 1 rfl (wl_nil ?_)))))))))))))
   refine eo_then (cw_ret (eo_ret [.bool true] rfl ⟨rfl,trivial⟩ ?_))
   exact⟨_,rfl,(show Value.bool true=_ by rw [decide_eq_true heq]),(Ext.refl w)⟩
  · 
   refine cw_region (mv 1 rfl (wl_pureE rfl rfl (v:= .int .i64 (((strB bs).size:Nat):Int)) (v':= .int .i64 ((bs.length:Nat):Int)) (by decide) (by kernel_rfl) (by rw [strB_size]) (mv 1 rfl (wl_pureE rfl rfl (v:= .int .i64 (((strB ps).size:Nat):Int)) (v':= .int .i64 ((ps.length:Nat):Int)) (by decide) (by kernel_rfl) (by rw [strB_size]) (wl_cmp rfl rfl rfl true (cb_ge_t (a:=bs.length) (b:=ps.length) rfl rfl (by omega)) (by decide) (mv 3 rfl (wl_pureE rfl rfl (v:= .int .i64 (((strB ps).size:Nat):Int)) (v':= .int .i64 ((ps.length:Nat):Int)) (by decide) (by kernel_rfl) (by rw [strB_size]) (wl_strhi (bs:=bs) (i:=ps.length) rfl rfl rfl Tryd.underlying9 (by omega) (by decide) (mv 1 rfl (wl_streq (a:=bs.take ps.length) (b:=ps) rfl rfl rfl (fun b hb=>hbs b (List.mem_of_mem_take hb)) hps false (strE_eql_f (heq)) (by decide) (pu (v:= .bool false) rfl (by kernel_rfl) (mv 1 rfl (wl_nil ?_)))))))))))))
   refine eo_then (cw_ret (eo_ret [F0] rfl ⟨rfl,trivial⟩ ?_))
   exact⟨_,rfl,(show Value.bool false=_ by rw [decide_eq_false heq]),(Ext.refl w)⟩
 · 
  have heq:bs.take ps.length≠ps:=fun e=>by have h:=congrArg List.length e;rw [List.length_take] at h;omega
  refine cw_region (mv 1 rfl (wl_pureE rfl rfl (v:= .int .i64 (((strB bs).size:Nat):Int)) (v':= .int .i64 ((bs.length:Nat):Int)) (by decide) (by kernel_rfl) (by rw [strB_size]) (mv 1 rfl (wl_pureE rfl rfl (v:= .int .i64 (((strB ps).size:Nat):Int)) (v':= .int .i64 ((ps.length:Nat):Int)) (by decide) (by kernel_rfl) (by rw [strB_size]) (wl_cmp rfl rfl rfl false (cb_ge_f (a:=bs.length) (b:=ps.length) rfl rfl (by omega)) (by decide) (mv 7 rfl (pu (v:= .bool false) rfl (by kernel_rfl) (mv 1 rfl (ne_ (cw_ret (eo_ret [F0] rfl ⟨rfl,trivial⟩ ?_)))))))))))
  exact⟨_,rfl,(show Value.bool false=_ by rw [decide_eq_false heq]),(Ext.refl w)⟩
set_option maxHeartbeats 4000000 in
theorem g_hasPrefix {w:World}{bs ps:List Nat}(hbs:∀b,b∈bs→b<256) (hps:∀b,b∈ps→b<256):
    Calls Tryd.prog 76 #[.string (strB bs),.string (strB ps)] w (Gv w (Is (.bool (decide (bs.take ps.length=ps))))):=by
 refine sx_enter Tryd.func76 rfl (n:=8) rfl (bq rfl) (args:= [.string (strB bs),.string (strB ps)]) (cw_keep [(0,.string (strB bs)),(1,.string (strB ps))] ⟨rfl,rfl,trivial⟩ (sr (mv 1 rfl (ne_ (sr (mv 2 rfl (cl (vs:= [.string (strB bs),.string (strB ps)]) (Ext.refl w) (g_hasPrefixL hbs hps) rfl (by kernel_rfl) fun xr3 v1 r3 e2 hw1=>?_)))))))
 obtain rfl:=r3
 refine mv 1 rfl (ne_ (cw_ret (eo_ret [.bool (decide (bs.take ps.length=ps))] rfl ⟨rfl,trivial⟩ ?_)))
 exact⟨_,rfl,rfl,hw1⟩
set_option maxHeartbeats 4000000 in
theorem rx_zRead_all {w:World}{bs:List Nat}(hbs:∀b,b∈bs→b<256) (hlen:bs.length≤17179869184):
    Calls Tryd.prog 52 #[.string (strB bs)] w (fun e w'=>(Good 10 (ztl bs)→Gv w (T2 (ZR w.heap.size (zval bs)) (Is (.int .i64 0))) e w')∧(¬Good 10 (ztl bs)→Gv w (T2 (Is (.agg #[.bool false,.slice none 0 0])) (Is (.int .i64 7))) e w')):=by
 refine sx_enter Tryd.func52 rfl (n:=34) rfl (bq rfl) (args:= [.string (strB bs)]) (cw_keep [(0,.string (strB bs))] ⟨rfl,trivial⟩ (sr (al [F0,S0] (Ext.refl w) (fun _=>by kernel_rfl) rfl fun g1 v2 hb4 ge5 e3 hw1=>(mv 1 rfl (ne_ (sr (mv 1 rfl (ne_ (cw_seq (cw_block (cw_seq ?_)))))))))))
 by_cases hf1:bs.take 1= [43]
 · 
  have hzl:ztl bs=bs.drop 1:=by unfold ztl;rw [if_pos hf1]
  have hzn:zng bs=false:=by unfold zng;rw [if_pos hf1]
  have hln:1≤bs.length:=by have h:=congrArg List.length hf1;rw [List.length_take] at h;simp only [List.length_cons,List.length_nil] at h;omega
  refine cw_region (mv 1 rfl (wl_call rfl rfl (vs:= [.string (strB bs),.string (strB ([43]))]) (by kernel_rfl) (by decide) (by have h:=g_hasPrefix (w:=v2) (bs:=bs) (ps:= [43]) hbs (by decide);rw [decide_eq_true (show bs.take ([43]:List Nat).length= [43] by exact hf1)] at h;exact h) ?_))
  rintro _ v6 ⟨xr8,rfl,r8,e7⟩
  refine ret_intro ?_
  have hw2:=hw1.trans e7
  obtain rfl:=r8
  refine mv 1 rfl (ne_ (cw_true rfl (cw_region (mv 1 rfl (wl_strlo (bs:=bs) (i:=1) rfl rfl rfl Tryd.underlying9 (by omega) (by decide) (mv 1 rfl (wl_nil (eo_block_normal (eo_then (cw_seq ?_))))))))))
  have hbt:∀b,b∈bs.drop 1→b<256:=fun b hb=>hbs b (List.mem_of_mem_drop hb)
  have hlt:(bs.drop 1).length≤17179869184:=by rw [List.length_drop];omega
  by_cases hg:Good 10 (bs.drop 1)
  · 
   have hnz:=len_wd_dv (base:=10) (by decide) (by decide) hg.2
   refine cw_region (mv 1 rfl (cl (vs:= [.string (strB (bs.drop 1))]) hw2 ((rx_ReadDec_good hbt hlt hg).mono (Gv.imp (T2.imp (WR.imp hw2.size) Is.imp))) rfl (by kernel_rfl) fun xr11 v9 r11 e10 hw3=>?_))
   obtain⟨_,_,rfl,⟨A13,n13,c13,rfl,j13,o13⟩,rfl⟩:=r11
   refine mv 1 rfl (pu (v:= .slice A13 n13 c13) rfl (by kernel_rfl) (pu (v:= .int .i64 0) rfl (by kernel_rfl) (mv 2 rfl (ne_ (cw_seq (sr (mv 1 rfl (wl_cmp rfl rfl rfl false (by decide) (by decide) (ne_ (cw_false rfl (cw_skip (eo_then (cw_seq ?_)))))))))))))
   refine cw_region (mv 2 rfl (cl (vs:= [F0,.slice A13 n13 c13]) hw3 (g_zint_of_false j13 o13) rfl (by kernel_rfl) fun xr16 v14 r16 e15 hw4=>?_))
   obtain⟨s17,A17,n17,c17,rfl,z17⟩:=r16
   have hb19:=(hb4.ext (e7.trans (e10.trans e15)))
   refine so aggInt hb19 [.bool s17,.slice A17 n17 c17] hw4 ge5 rfl rfl rfl rfl fun v18 hb20 u21 hw5=>(mv 1 rfl (ne_ (cw_ret (eo_ret [.agg #[.bool s17,.slice A17 n17 c17],I0] rfl ⟨⟨_,rfl,load_agg aggInt hb20 [.bool s17,.slice A17 n17 c17] rfl (bq rfl) rfl⟩,rfl,trivial⟩ (⟨fun _=>⟨_,rfl,⟨_,_,rfl,⟨_,_,_,_,rfl,?_⟩,rfl⟩,hw5⟩,fun h=>absurd (show Good 10 (ztl bs) by rw [hzl];exact hg) h⟩)))))
   have h:=(z17.updT hb19 u21)
   rw [zval,hzn,hzl]
   exact h
  · 
   refine cw_region (mv 1 rfl (cl (vs:= [.string (strB (bs.drop 1))]) hw2 (rx_ReadDec_bad hbt hlt hg) rfl (by kernel_rfl) fun xr25 v23 r25 e24 hw3=>?_))
   obtain⟨_,_,rfl,rfl,rfl⟩:=r25
   refine mv 1 rfl (pu (v:= .slice none 0 0) rfl (by kernel_rfl) (pu (v:= .int .i64 7) rfl (by kernel_rfl) (mv 2 rfl (ne_ (cw_seq (sr (mv 1 rfl (wl_cmp rfl rfl rfl true (by decide) (by decide) (ne_ (cw_true rfl (sr (pu (v:= .agg #[F0,S0]) rfl (by kernel_rfl) (mv 1 rfl ?_)))))))))))))
   have hb28:=(hb4.ext (e7.trans e24))
   refine so aggInt hb28 [F0,S0] hw3 ge5 rfl rfl rfl rfl fun v27 hb29 u30 hw4=>(mv 1 rfl (ne_ (cw_ret (eo_thenR (eo_ret [.agg #[F0,S0],.int .i64 7] rfl ⟨⟨_,rfl,load_agg aggInt hb29 [F0,S0] rfl (bq rfl) rfl⟩,rfl,trivial⟩ ?_)))))
   exact⟨fun h=>absurd (by rw [hzl] at h;exact h) hg,fun _=>⟨_,rfl,⟨_,_,rfl,rfl,rfl⟩,hw4⟩⟩
 · 
  by_cases hf2:bs.take 1= [45]
  · 
   have hzl:ztl bs=bs.drop 1:=by unfold ztl;rw [if_neg hf1,if_pos hf2]
   have hzn:zng bs=true:=by unfold zng;rw [if_neg hf1,if_pos hf2]
   have hln:1≤bs.length:=by have h:=congrArg List.length hf2;rw [List.length_take] at h;simp only [List.length_cons,List.length_nil] at h;omega
   refine cw_region (mv 1 rfl (wl_call rfl rfl (vs:= [.string (strB bs),.string (strB ([43]))]) (by kernel_rfl) (by decide) (by have h:=g_hasPrefix (w:=v2) (bs:=bs) (ps:= [43]) hbs (by decide);rw [decide_eq_false (show¬bs.take ([43]:List Nat).length= [43] by exact hf1)] at h;exact h) ?_))
   rintro _ v32 ⟨xr34,rfl,r34,e33⟩
   refine ret_intro ?_
   have hw2:=hw1.trans e33
   obtain rfl:=r34
   refine mv 1 rfl (ne_ (cw_false rfl (sr (mv 1 rfl (wl_call rfl rfl (vs:= [.string (strB bs),.string (strB ([45]))]) (by kernel_rfl) (by decide) (by have h:=g_hasPrefix (w:=v32) (bs:=bs) (ps:= [45]) hbs (by decide);rw [decide_eq_true (show bs.take ([45]:List Nat).length= [45] by exact hf2)] at h;exact h) ?_)))))
   rintro _ v35 ⟨xr37,rfl,r37,e36⟩
   refine ret_intro ?_
   have hw3:=hw2.trans e36
   obtain rfl:=r37
   refine mv 1 rfl (ne_ (cw_true rfl (cw_region (mv 1 rfl (wl_strlo (bs:=bs) (i:=1) rfl rfl rfl Tryd.underlying9 (by omega) (by decide) (mv 2 rfl (wl_nil (eo_block_normal (eo_then (cw_seq ?_))))))))))
   have hbt:∀b,b∈bs.drop 1→b<256:=fun b hb=>hbs b (List.mem_of_mem_drop hb)
   have hlt:(bs.drop 1).length≤17179869184:=by rw [List.length_drop];omega
   by_cases hg:Good 10 (bs.drop 1)
   · 
    have hnz:=len_wd_dv (base:=10) (by decide) (by decide) hg.2
    refine cw_region (mv 1 rfl (cl (vs:= [.string (strB (bs.drop 1))]) hw3 ((rx_ReadDec_good hbt hlt hg).mono (Gv.imp (T2.imp (WR.imp hw3.size) Is.imp))) rfl (by kernel_rfl) fun xr40 v38 r40 e39 hw4=>?_))
    obtain⟨_,_,rfl,⟨A42,n42,c42,rfl,j42,o42⟩,rfl⟩:=r40
    refine mv 1 rfl (pu (v:= .slice A42 n42 c42) rfl (by kernel_rfl) (pu (v:= .int .i64 0) rfl (by kernel_rfl) (mv 2 rfl (ne_ (cw_seq (sr (mv 1 rfl (wl_cmp rfl rfl rfl false (by decide) (by decide) (ne_ (cw_false rfl (cw_skip (eo_then (cw_seq ?_)))))))))))))
    refine cw_region (mv 2 rfl (cl (vs:= [.bool true,.slice A42 n42 c42]) hw4 (g_zint_of_true j42 o42) rfl (by kernel_rfl) fun xr45 v43 r45 e44 hw5=>?_))
    obtain⟨s46,A46,n46,c46,rfl,z46⟩:=r45
    have hb48:=(hb4.ext (e33.trans (e36.trans (e39.trans e44))))
    refine so aggInt hb48 [.bool s46,.slice A46 n46 c46] hw5 ge5 rfl rfl rfl rfl fun v47 hb49 u50 hw6=>(mv 1 rfl (ne_ (cw_ret (eo_ret [.agg #[.bool s46,.slice A46 n46 c46],I0] rfl ⟨⟨_,rfl,load_agg aggInt hb49 [.bool s46,.slice A46 n46 c46] rfl (bq rfl) rfl⟩,rfl,trivial⟩ (⟨fun _=>⟨_,rfl,⟨_,_,rfl,⟨_,_,_,_,rfl,?_⟩,rfl⟩,hw6⟩,fun h=>absurd (show Good 10 (ztl bs) by rw [hzl];exact hg) h⟩)))))
    have h:=(z46.updT hb48 u50)
    rw [zval,hzn,hzl]
    exact h
   · 
    refine cw_region (mv 1 rfl (cl (vs:= [.string (strB (bs.drop 1))]) hw3 (rx_ReadDec_bad hbt hlt hg) rfl (by kernel_rfl) fun xr54 v52 r54 e53 hw4=>?_))
    obtain⟨_,_,rfl,rfl,rfl⟩:=r54
    refine mv 1 rfl (pu (v:= .slice none 0 0) rfl (by kernel_rfl) (pu (v:= .int .i64 7) rfl (by kernel_rfl) (mv 2 rfl (ne_ (cw_seq (sr (mv 1 rfl (wl_cmp rfl rfl rfl true (by decide) (by decide) (ne_ (cw_true rfl (sr (pu (v:= .agg #[F0,S0]) rfl (by kernel_rfl) (mv 1 rfl ?_)))))))))))))
    have hb57:=(hb4.ext (e33.trans (e36.trans e53)))
    refine so aggInt hb57 [F0,S0] hw4 ge5 rfl rfl rfl rfl fun v56 hb58 u59 hw5=>(mv 1 rfl (ne_ (cw_ret (eo_thenR (eo_ret [.agg #[F0,S0],.int .i64 7] rfl ⟨⟨_,rfl,load_agg aggInt hb58 [F0,S0] rfl (bq rfl) rfl⟩,rfl,trivial⟩ ?_)))))
    exact⟨fun h=>absurd (by rw [hzl] at h;exact h) hg,fun _=>⟨_,rfl,⟨_,_,rfl,rfl,rfl⟩,hw5⟩⟩
  · 
   by_cases hf3:bs.take 3= [226,136,146]
   · 
    have hzl:ztl bs=bs.drop 3:=by unfold ztl;rw [if_neg hf1,if_neg hf2,if_pos hf3]
    have hzn:zng bs=true:=by unfold zng;rw [if_neg hf1,if_neg hf2,if_pos hf3]
    have hln:3≤bs.length:=by have h:=congrArg List.length hf3;rw [List.length_take] at h;simp only [List.length_cons,List.length_nil] at h;omega
    refine cw_region (mv 1 rfl (wl_call rfl rfl (vs:= [.string (strB bs),.string (strB ([43]))]) (by kernel_rfl) (by decide) (by have h:=g_hasPrefix (w:=v2) (bs:=bs) (ps:= [43]) hbs (by decide);rw [decide_eq_false (show¬bs.take ([43]:List Nat).length= [43] by exact hf1)] at h;exact h) ?_))
    rintro _ v61 ⟨xr63,rfl,r63,e62⟩
    refine ret_intro ?_
    have hw2:=hw1.trans e62
    obtain rfl:=r63
    refine mv 1 rfl (ne_ (cw_false rfl (sr (mv 1 rfl (wl_call rfl rfl (vs:= [.string (strB bs),.string (strB ([45]))]) (by kernel_rfl) (by decide) (by have h:=g_hasPrefix (w:=v61) (bs:=bs) (ps:= [45]) hbs (by decide);rw [decide_eq_false (show¬bs.take ([45]:List Nat).length= [45] by exact hf2)] at h;exact h) ?_)))))
    rintro _ v64 ⟨xr66,rfl,r66,e65⟩
    refine ret_intro ?_
    have hw3:=hw2.trans e65
    obtain rfl:=r66
    refine mv 1 rfl (ne_ (cw_false rfl (sr (mv 1 rfl (wl_call rfl rfl (vs:= [.string (strB bs),.string (strB ([226,136,146]))]) (by kernel_rfl) (by decide) (by have h:=g_hasPrefix (w:=v64) (bs:=bs) (ps:= [226,136,146]) hbs (by decide);rw [decide_eq_true (show bs.take ([226,136,146]:List Nat).length= [226,136,146] by exact hf3)] at h;exact h) ?_)))))
    rintro _ v67 ⟨xr69,rfl,r69,e68⟩
    refine ret_intro ?_
    have hw4:=hw3.trans e68
    obtain rfl:=r69
    refine mv 1 rfl (ne_ (cw_true rfl (cw_region (mv 1 rfl (wl_strlo (bs:=bs) (i:=3) rfl rfl rfl Tryd.underlying9 (by omega) (by decide) (mv 2 rfl (wl_nil (eo_block_normal (eo_then (cw_seq ?_))))))))))
    have hbt:∀b,b∈bs.drop 3→b<256:=fun b hb=>hbs b (List.mem_of_mem_drop hb)
    have hlt:(bs.drop 3).length≤17179869184:=by rw [List.length_drop];omega
    by_cases hg:Good 10 (bs.drop 3)
    · 
     have hnz:=len_wd_dv (base:=10) (by decide) (by decide) hg.2
     refine cw_region (mv 1 rfl (cl (vs:= [.string (strB (bs.drop 3))]) hw4 ((rx_ReadDec_good hbt hlt hg).mono (Gv.imp (T2.imp (WR.imp hw4.size) Is.imp))) rfl (by kernel_rfl) fun xr72 v70 r72 e71 hw5=>?_))
     obtain⟨_,_,rfl,⟨A74,n74,c74,rfl,j74,o74⟩,rfl⟩:=r72
     refine mv 1 rfl (pu (v:= .slice A74 n74 c74) rfl (by kernel_rfl) (pu (v:= .int .i64 0) rfl (by kernel_rfl) (mv 2 rfl (ne_ (cw_seq (sr (mv 1 rfl (wl_cmp rfl rfl rfl false (by decide) (by decide) (ne_ (cw_false rfl (cw_skip (eo_then (cw_seq ?_)))))))))))))
     refine cw_region (mv 2 rfl (cl (vs:= [.bool true,.slice A74 n74 c74]) hw5 (g_zint_of_true j74 o74) rfl (by kernel_rfl) fun xr77 v75 r77 e76 hw6=>?_))
     obtain⟨s78,A78,n78,c78,rfl,z78⟩:=r77
     have hb80:=(hb4.ext (e62.trans (e65.trans (e68.trans (e71.trans e76)))))
     refine so aggInt hb80 [.bool s78,.slice A78 n78 c78] hw6 ge5 rfl rfl rfl rfl fun v79 hb81 u82 hw7=>(mv 1 rfl (ne_ (cw_ret (eo_ret [.agg #[.bool s78,.slice A78 n78 c78],I0] rfl ⟨⟨_,rfl,load_agg aggInt hb81 [.bool s78,.slice A78 n78 c78] rfl (bq rfl) rfl⟩,rfl,trivial⟩ (⟨fun _=>⟨_,rfl,⟨_,_,rfl,⟨_,_,_,_,rfl,?_⟩,rfl⟩,hw7⟩,fun h=>absurd (show Good 10 (ztl bs) by rw [hzl];exact hg) h⟩)))))
     have h:=(z78.updT hb80 u82)
     rw [zval,hzn,hzl]
     exact h
    · 
     refine cw_region (mv 1 rfl (cl (vs:= [.string (strB (bs.drop 3))]) hw4 (rx_ReadDec_bad hbt hlt hg) rfl (by kernel_rfl) fun xr86 v84 r86 e85 hw5=>?_))
     obtain⟨_,_,rfl,rfl,rfl⟩:=r86
     refine mv 1 rfl (pu (v:= .slice none 0 0) rfl (by kernel_rfl) (pu (v:= .int .i64 7) rfl (by kernel_rfl) (mv 2 rfl (ne_ (cw_seq (sr (mv 1 rfl (wl_cmp rfl rfl rfl true (by decide) (by decide) (ne_ (cw_true rfl (sr (pu (v:= .agg #[F0,S0]) rfl (by kernel_rfl) (mv 1 rfl ?_)))))))))))))
     have hb89:=(hb4.ext (e62.trans (e65.trans (e68.trans e85))))
     refine so aggInt hb89 [F0,S0] hw5 ge5 rfl rfl rfl rfl fun v88 hb90 u91 hw6=>(mv 1 rfl (ne_ (cw_ret (eo_thenR (eo_ret [.agg #[F0,S0],.int .i64 7] rfl ⟨⟨_,rfl,load_agg aggInt hb90 [F0,S0] rfl (bq rfl) rfl⟩,rfl,trivial⟩ ?_)))))
     exact⟨fun h=>absurd (by rw [hzl] at h;exact h) hg,fun _=>⟨_,rfl,⟨_,_,rfl,rfl,rfl⟩,hw6⟩⟩
   · 
    have hzl:ztl bs=bs:=by unfold ztl;rw [if_neg hf1,if_neg hf2,if_neg hf3]
    have hzn:zng bs=false:=by unfold zng;rw [if_neg hf1,if_neg hf2,if_neg hf3]
    refine cw_region (mv 1 rfl (wl_call rfl rfl (vs:= [.string (strB bs),.string (strB ([43]))]) (by kernel_rfl) (by decide) (by have h:=g_hasPrefix (w:=v2) (bs:=bs) (ps:= [43]) hbs (by decide);rw [decide_eq_false (show¬bs.take ([43]:List Nat).length= [43] by exact hf1)] at h;exact h) ?_))
    rintro _ v93 ⟨xr95,rfl,r95,e94⟩
    refine ret_intro ?_
    have hw2:=hw1.trans e94
    obtain rfl:=r95
    refine mv 1 rfl (ne_ (cw_false rfl (sr (mv 1 rfl (wl_call rfl rfl (vs:= [.string (strB bs),.string (strB ([45]))]) (by kernel_rfl) (by decide) (by have h:=g_hasPrefix (w:=v93) (bs:=bs) (ps:= [45]) hbs (by decide);rw [decide_eq_false (show¬bs.take ([45]:List Nat).length= [45] by exact hf2)] at h;exact h) ?_)))))
    rintro _ v96 ⟨xr98,rfl,r98,e97⟩
    refine ret_intro ?_
    have hw3:=hw2.trans e97
    obtain rfl:=r98
    refine mv 1 rfl (ne_ (cw_false rfl (sr (mv 1 rfl (wl_call rfl rfl (vs:= [.string (strB bs),.string (strB ([226,136,146]))]) (by kernel_rfl) (by decide) (by have h:=g_hasPrefix (w:=v96) (bs:=bs) (ps:= [226,136,146]) hbs (by decide);rw [decide_eq_false (show¬bs.take ([226,136,146]:List Nat).length= [226,136,146] by exact hf3)] at h;exact h) ?_)))))
    rintro _ v99 ⟨xr101,rfl,r101,e100⟩
    refine ret_intro ?_
    have hw4:=hw3.trans e100
    obtain rfl:=r101
    refine mv 1 rfl (ne_ (cw_false rfl (cw_skip (eo_block_normal (eo_then (cw_seq ?_))))))
    have hbt:∀b,b∈bs→b<256:=hbs
    have hlt:(bs).length≤17179869184:=by omega
    by_cases hg:Good 10 (bs)
    · 
     have hnz:=len_wd_dv (base:=10) (by decide) (by decide) hg.2
     refine cw_region (mv 1 rfl (cl (vs:= [.string (strB bs)]) hw4 ((rx_ReadDec_good hbt hlt hg).mono (Gv.imp (T2.imp (WR.imp hw4.size) Is.imp))) rfl (by kernel_rfl) fun xr104 v102 r104 e103 hw5=>?_))
     obtain⟨_,_,rfl,⟨A106,n106,c106,rfl,j106,o106⟩,rfl⟩:=r104
     refine mv 1 rfl (pu (v:= .slice A106 n106 c106) rfl (by kernel_rfl) (pu (v:= .int .i64 0) rfl (by kernel_rfl) (mv 2 rfl (ne_ (cw_seq (sr (mv 1 rfl (wl_cmp rfl rfl rfl false (by decide) (by decide) (ne_ (cw_false rfl (cw_skip (eo_then (cw_seq ?_)))))))))))))
     refine cw_region (mv 2 rfl (cl (vs:= [F0,.slice A106 n106 c106]) hw5 (g_zint_of_false j106 o106) rfl (by kernel_rfl) fun xr109 v107 r109 e108 hw6=>?_))
     obtain⟨s110,A110,n110,c110,rfl,z110⟩:=r109
     have hb112:=(hb4.ext (e94.trans (e97.trans (e100.trans (e103.trans e108)))))
     refine so aggInt hb112 [.bool s110,.slice A110 n110 c110] hw6 ge5 rfl rfl rfl rfl fun v111 hb113 u114 hw7=>(mv 1 rfl (ne_ (cw_ret (eo_ret [.agg #[.bool s110,.slice A110 n110 c110],I0] rfl ⟨⟨_,rfl,load_agg aggInt hb113 [.bool s110,.slice A110 n110 c110] rfl (bq rfl) rfl⟩,rfl,trivial⟩ (⟨fun _=>⟨_,rfl,⟨_,_,rfl,⟨_,_,_,_,rfl,?_⟩,rfl⟩,hw7⟩,fun h=>absurd (show Good 10 (ztl bs) by rw [hzl];exact hg) h⟩)))))
     have h:=(z110.updT hb112 u114)
     rw [zval,hzn,hzl]
     exact h
    · 
     refine cw_region (mv 1 rfl (cl (vs:= [.string (strB bs)]) hw4 (rx_ReadDec_bad hbt hlt hg) rfl (by kernel_rfl) fun xr118 v116 r118 e117 hw5=>?_))
     obtain⟨_,_,rfl,rfl,rfl⟩:=r118
     refine mv 1 rfl (pu (v:= .slice none 0 0) rfl (by kernel_rfl) (pu (v:= .int .i64 7) rfl (by kernel_rfl) (mv 2 rfl (ne_ (cw_seq (sr (mv 1 rfl (wl_cmp rfl rfl rfl true (by decide) (by decide) (ne_ (cw_true rfl (sr (pu (v:= .agg #[F0,S0]) rfl (by kernel_rfl) (mv 1 rfl ?_)))))))))))))
     have hb121:=(hb4.ext (e94.trans (e97.trans (e100.trans e117))))
     refine so aggInt hb121 [F0,S0] hw5 ge5 rfl rfl rfl rfl fun v120 hb122 u123 hw6=>(mv 1 rfl (ne_ (cw_ret (eo_thenR (eo_ret [.agg #[F0,S0],.int .i64 7] rfl ⟨⟨_,rfl,load_agg aggInt hb122 [F0,S0] rfl (bq rfl) rfl⟩,rfl,trivial⟩ ?_)))))
     exact⟨fun h=>absurd (by rw [hzl] at h;exact h) hg,fun _=>⟨_,rfl,⟨_,_,rfl,rfl,rfl⟩,hw6⟩⟩
theorem rx_zRead {w:World}{b:Nat}(hb:b≤w.heap.size){bs tl:List Nat}{z:Int}(hbs:∀b,b∈bs→b<256) (hlen:bs.length≤17179869184) (ht:ztl bs=tl) (hg:Good 10 tl) (hz:zval bs=z):Calls Tryd.prog 52 #[.string (strB bs)] w (Gv w (T2 (ZR b z) (Is (.int .i64 0)))):=
 (rx_zRead_all hbs hlen).mono fun e w' h=>by have h2:=h.1 (by rw [ht];exact hg);rw [hz] at h2;exact Gv.imp (T2.imp (ZR.imp hb) Is.imp) _ _ h2
theorem zval_pos {bs tl:List Nat}(ht:ztl bs=tl) (hn:zng bs=false):zval bs=((vald 10 (tl.map dv):Nat):Int):=by rw [zval,hn,ht];rfl
theorem zval_neg {bs tl:List Nat}(ht:ztl bs=tl) (hn:zng bs=true):zval bs= -((vald 10 (tl.map dv):Nat):Int):=by rw [zval,hn,ht];rfl
set_option maxHeartbeats 4000000 in
theorem rx_zTextF {w:World}{sa:Bool}{Aa:Option Addr}{na ca:Nat}{x:Int}(hx:Zi w sa Aa na ca x) (la:na≤4194304) (hS:Signs w):
    Calls Tryd.prog 21 #[.agg #[.bool sa,.slice Aa na ca]] w (Gv w (Is (.string (strB (txtZ x))))):=by
 have Lx:ln x≤4194304:=Nat.le_trans hx.ln la
 refine sx_enter Tryd.func21 rfl (n:=13) rfl (bq rfl) (args:= [.agg #[.bool sa,.slice Aa na ca]]) (cw_keep [(0,.agg #[.bool sa,.slice Aa na ca])] ⟨rfl,trivial⟩ (sr (bx [.bool sa,.slice Aa na ca] (Ext.refl w) rfl rfl rfl fun g1 v2 hb4 ge5 e3 hw1=>(mv 1 rfl (ne_ (sr (pf g1 1 rfl (by kernel_rfl) (wl_load rfl rfl (load_cell cellWords hb4 rfl) (by decide) (cl (vs:= [.slice Aa na ca]) hw1 (rx_DecF (hS.ext hw1) (hx.ext hw1).wi (by omega)) rfl (by kernel_rfl) fun xr8 v6 r8 e7 hw2=>?_)))))))))
 obtain rfl:=r8
 refine mv 1 rfl (ne_ (cw_seq (cw_seq ?_)))
 by_cases hx0:x<0
 · 
  refine cw_region (lo aggInt (hb4.ext e7) [.bool sa,.slice Aa na ca] rfl rfl rfl (cl (vs:= [.agg #[.bool sa,.slice Aa na ca]]) hw2 (g_zint_Sign (hx.ext hw2) (lx_ la rfl)) rfl (by kernel_rfl) fun xr11 v9 r11 e10 hw3=>?_))
  obtain rfl:=r11
  refine wl_cmp rfl rfl rfl true (scmp_lt_t hx0) (by decide) (ne_ (cw_true rfl (sr (mv 1 rfl (wl_op rfl rfl rfl (r:= .string (strB (([45])++(txtN 10 (Int.natAbs x))))) rfl (fun w=>str_add (a:= [45]) (b:=txtN 10 (Int.natAbs x)) (by have:=txtN_len (b:=10) (by decide) (show (wd (Int.natAbs x)).length≤4194304 from Lx);show 1+_≤_;omega)) (by decide) (mv 1 rfl (ne_ (cw_ret (eo_thenR (eo_ret [.string (strB (([45])++(txtN 10 (Int.natAbs x))))] rfl ⟨rfl,trivial⟩ ?_))))))))))
  exact⟨_,rfl,(show Value.string _= .string (strB (txtZ x)) by rw [txtZ,if_pos hx0]),hw3⟩
 · 
  refine cw_region (lo aggInt (hb4.ext e7) [.bool sa,.slice Aa na ca] rfl rfl rfl (cl (vs:= [.agg #[.bool sa,.slice Aa na ca]]) hw2 (g_zint_Sign (hx.ext hw2) (lx_ la rfl)) rfl (by kernel_rfl) fun xr14 v12 r14 e13 hw3=>?_))
  obtain rfl:=r14
  refine wl_cmp rfl rfl rfl false (scmp_lt_f (by omega)) (by decide) (ne_ (cw_false rfl (cw_skip (eo_then (sr (mv 2 rfl (ne_ (cw_ret (eo_ret [.string (strB (txtN 10 (Int.natAbs x)))] rfl ⟨rfl,trivial⟩ ?_)))))))))
  exact⟨_,rfl,(show Value.string _= .string (strB (txtZ x)) by rw [txtZ,if_neg hx0]),hw3⟩
section
variable {P:Program}{Q:Exit→Act→World→Prop}{n:Nat}{l:Fr}{w:World}{ops:Array Oper}{rest:List Oper}{d:Nat}{ty:TypeId}{pos:String}{af:Array Edge}{gd:Option (Nat×Bool)}
theorem fl_strlo {a:Operand→Value}{dst:Option Tmp}{x y:Operand}{t:TypeId}{bs:List Nat}{i:Nat}(hx:a x= .string (strB bs)) (hy:a y= .int .i64 (i:Int)) (ht:P.underlying t=some .string) (hi:i≤bs.length):
  (execOp a ⟨dst,.slice t x (some y) none none,ty,pos,af,gd⟩).run P w= .ok (.value (.string (strB (bs.drop i)))) w:=by
 have e:(Instr.sliceAt t (a x) ((some y).map a) (Option.map a none) (Option.map a none)).run P w= .ok (.string (strB (bs.drop i))) w:=by
  show (Instr.sliceAt t (a x) (some (a y)) none none).run P w=_
  rw [hx,hy,run_sliceAt_str ht,run_slice_string_l (ht:=ht) (kl:= .i64) (l:=(i:Int)) (h0:=by omega) (h1:=by rw [strB_size];omega),Int.toNat_natCast,strB_from]
 show ((Instr.sliceAt t (a x) ((some y).map a) (Option.map a none) (Option.map a none)>>=fun r=>pure (Next.value r):Sem Next)).run P w=_
 rw [Sem.run_bind,e];rfl
theorem fl_ar {a:Operand→Value}{o:BinOp}{t t':TypeId}{x y:Operand}{k:IntKind}{A B:Int}{dst:Option Tmp}(hx:a x= .int k A) (hy:a y= .int k B) (c:Int) (hc:arB o k A B=some c):(execOp a ⟨dst,.binOp o t x y t',ty,pos,af,gd⟩).run P w= .ok (.value (.int k c)) w:=by
 have e:((do eqGuard o t x y (a x) (a y);binOp o t (a x) (a y)):Sem Value).run P w= .ok (.int k c) w:=by
  rw [hx,hy];exact run_ar hc
 show ((((do eqGuard o t x y (a x) (a y);binOp o t (a x) (a y)):Sem Value)>>=fun r=>pure (Next.value r)):Sem Next).run P w=_
 rw [Sem.run_bind,e];rfl
end
theorem boxesL2 (w:World) (t t':TypeId) (l l':List Value):∃g g2 wa,w.heap.size+1=g2∧w.heap.size=g∧(w.alloc (.cells l.toArray t)).alloc (.cells l'.toArray t')=wa∧Bk wa g t l∧Bk wa g2 t' l'∧Ext w wa∧g<g2∧g2<wa.heap.size∧g≠g2∧g2≠g:=
 ⟨_,_,_,rfl,rfl,rfl,(Bk.new w t l).alloc _,Bk.fr2,((Ext.refl w).alloc _).alloc _,by omega,by simp,by omega,by omega⟩
theorem boxesL1 (w:World) (t:TypeId) (l:List Value):∃g wa,w.heap.size=g∧w.alloc (.cells l.toArray t)=wa∧Bk wa g t l∧Ext w wa∧g<wa.heap.size:=
 ⟨_,_,rfl,rfl,Bk.new w t l,(Ext.refl w).alloc _,by simp⟩
theorem Zr.eq_iff {w:World}{base base':Nat}{s t:Bool}{A B:Option Addr}{n cap m cap':Nat}{x y:Int}(hx:Zr w base s A n cap x) (hy:Zr w base' t B m cap' y):x=y↔(s=t∧wd x.natAbs=wd y.natAbs):=by
 constructor
 ·intro h;subst h;exact⟨hx.sgn.trans hy.sgn.symm,rfl⟩
 ·rintro⟨h1,h2⟩
  have h3:=wd_inj h2
  have h4:decide (x<0)=decide (y<0):=by rw [←hx.sgn,←hy.sgn,h1]
  rw [←sg_self x,←sg_self y,h3,h4]
theorem law_alike {w:World}{base base':Nat}{s t:Bool}{A B:Option Addr}{n cap m cap':Nat}{x y:Int}(hx:Zr w base s A n cap x) (hl:n≤1099511627776) (hy:Zr w base' t B m cap' y) (hl':m≤1099511627776){b:Bool}(hb:b=decide (x=y)):
  Calls Tryd.prog 16 #[.agg #[.bool s,.slice A n cap],.agg #[.bool t,.slice B m cap']] w (BoolP b w):=by
 have HB:Hid (b=decide (s=t∧wd x.natAbs=wd y.natAbs)):=by
  show _=_
  rw [hb];congr 1;exact propext (hx.eq_iff hy)
 clear hb
 go_enter Tryd.func16,Tryd.ntmps16
 go_upto_region 1 with (fail)
 obtain⟨g,g2,wa,hg2,hg,hwa,hb1,hb2,hea,l12,l2,n12,n21⟩:=boxesL2 w 24 24 [.bool s,.slice A n cap] [.bool t,.slice B m cap']
 rw [hg2,hg,hwa]
 clear hwa hg hg2
 obtain⟨f1,f2,f3,f4⟩:=hb1.two
 obtain⟨h1,h2,h3,h4⟩:=hb2.two
 by_cases hst:s=t
 ·have bs:(s==t)=true:=by rw [hst];cases t <;> rfl
  have HST:=Lib.hid hst
  clear hst
  go_wp2_with fail
  refine (ref1_Same (hx.rd.ext hea) hl (hy.rd.ext hea) hl').mono ?_
  rintro e w1 ⟨rfl,hx1⟩
  have ed:decide (wd x.natAbs=wd y.natAbs)=b:=by
   rw [HB.out];congr 1;simp [HST.out]
  rw [ed]
  go_wp2_with fail
  go_ret
  exact⟨rfl,hea.trans hx1⟩
 ·have bs:(s==t)=false:=by cases s <;> cases t <;> simp_all
  obtain rfl:b=false:=by rw [HB.out];exact decide_eq_false (fun h=>hst h.1)
  clear hst HB
  go_wp2_with fail
  go_ret
  exact⟨rfl,hea⟩
theorem law_like {w:World}{base base':Nat}{s s' t t':Bool}{A A' B B':Option Addr}{n cap n' cap' m dap m' dap':Nat}{x y u v:Int}(hx:Zr w base s A n cap x) (hl:n≤1099511627776) (hy:Zr w base s' A' n' cap' y) (hl':n'≤1099511627776)
  (hu:Zr w base' t B m dap u) (hk:m≤1099511627776) (hv:Zr w base' t' B' m' dap' v) (hk':m'≤1099511627776) (h1:x=u) (h2:y=v):
  Calls Tryd.prog 40 #[.agg #[.bool s,.slice A n cap,.bool s',.slice A' n' cap'],.agg #[.bool t,.slice B m dap,.bool t',.slice B' m' dap']] w (BoolP true w):=by
 subst h1
 subst h2
 go_enter Tryd.func40,Tryd.ntmps40
 go_upto_region 1 with (fail)
 obtain⟨g,g2,wa,hg2,hg,hwa,hb1,hb2,hea,l12,l2,n12,n21⟩:=boxesL2 w 26 26 [.bool s,.slice A n cap,.bool s',.slice A' n' cap'] [.bool t,.slice B m dap,.bool t',.slice B' m' dap']
 rw [hg2,hg,hwa]
 clear hwa hg hg2
 obtain⟨⟨a0,a1,a2,a3⟩,a4⟩:=hb1.four
 obtain⟨⟨b0,b1,b2,b3⟩,b4⟩:=hb2.four
 go_wp2_with fail
 refine (law_alike (hx.ext hea) hl (hu.ext hea) hk (b:=true) (by simp)).mono ?_
 rintro e w1 ⟨rfl,hx1⟩
 clear a0 a1 a2 a3 a4 b0 b1 b2 b3 b4
 obtain⟨⟨a0,a1,a2,a3⟩,a4⟩:=(hb1.ext hx1).four
 obtain⟨⟨b0,b1,b2,b3⟩,b4⟩:=(hb2.ext hx1).four
 go_wp2_with fail
 refine (law_alike (hy.ext (hea.trans hx1)) hl' (hv.ext (hea.trans hx1)) hk' (b:=true) (by simp)).mono ?_
 rintro e w2 ⟨rfl,hx2⟩
 go_wp2_with fail
 go_ret
 exact⟨rfl,hea.trans (hx1.trans hx2)⟩
theorem law_is {w:World}{s s':Bool}{A A':Option Addr}{n cap n' cap':Nat}{y:Int}(hy:Zi w s' A' n' cap' y) (hl':n'≤68719476736){b:Bool}(hb:b=decide (y≠0)):
  Calls Tryd.prog 10 #[.agg #[.bool s,.slice A n cap,.bool s',.slice A' n' cap']] w (BoolP b w):=by
 have HB:=Lib.hid hb
 clear hb
 go_enter Tryd.func10,Tryd.ntmps10
 go_upto_region 1 with (fail)
 obtain⟨g,wa,hg,hwa,hb1,hea,l2⟩:=boxesL1 w 26 [.bool s,.slice A n cap,.bool s',.slice A' n' cap']
 rw [hg,hwa]
 clear hwa hg
 obtain⟨⟨a0,a1,a2,a3⟩,a4⟩:=hb1.four
 go_wp2_with fail
 refine (zint_Sign (hy.ext hea) hl').mono ?_
 rintro e w1 ⟨c,hc,hcl,hch,rfl,hx1⟩
 have hc0:c=0↔y=0:=by rw [hc.out];exact scmp_zero
 by_cases h0:y=0
 ·obtain rfl:c=0:=hc0.2 h0
  obtain rfl:b=false:=by rw [HB.out,decide_eq_false (fun h=>h h0)]
  clear hc hc0 h0 HB
  go_wp2_with fail
  go_ret
  exact⟨rfl,hea.trans hx1⟩
 ·have bc:(c != 0)=true:=by simp;exact fun h=>h0 (hc0.1 h)
  obtain rfl:b=true:=by rw [HB.out,decide_eq_true h0]
  clear hc hc0 h0 HB
  go_wp2_with fail
  go_ret
  exact⟨rfl,hea.trans hx1⟩
theorem Zr.lit (w:World){s:Bool}{v:Nat}{z:Int}(hv:v≤18446744073709551615) (h0:v≠0) (hz:z=sg s v):Zr (w.alloc (.cells #[.int .u64 (v:Int)] 50)) w.heap.size s (some ⟨w.heap.size,0,none⟩) 1 1 z:=by
 have e:z.natAbs=v:=by rw [hz,sg_abs]
 have e2:wd v= [v]:=wd_small (by rw [WB_def];omega) h0
 refine⟨?_,?_,?_⟩
 ·rw [hz]
  cases s
  ·rw [sg_false];exact (decide_eq_false (by omega)).symm
  ·rw [sg_true];exact (decide_eq_true (by omega)).symm
 ·unfold ln;rw [e,e2];rfl
 ·rw [e,e2]
  exact Own.mk_ (Nat.le_refl _) (Bk.new w 50 [.int .u64 (v:Int)]) (Nat.le_refl _) (by rw [len_maxLen];omega) rfl rfl
theorem law_whole {w:World}{v:Nat}(hv:v≤18446744073709551615) (h0:v≠0):
  Calls Tryd.prog 37 #[.int .u64 (v:Int)] w (RetZ w (v:Int)):=by
 have bv:((v:Int)==0)=false:=by simp;omega
 go_enter Tryd.func37,Tryd.ntmps37
 go_upto_region 3 with (fail)
 obtain⟨g,wa,hg,hwa,hb1,hea,l2⟩:=boxesL1 w 24 [.bool false,.slice none 0 0]
 rw [hg,hwa]
 have hgw:w.heap.size≤g:=Nat.le_of_eq hg
 clear hwa hg
 have hlit:Zr (wa.alloc (.cells #[.int .u64 (v:Int)] 50)) wa.heap.size false (some ⟨wa.heap.size,0,none⟩) 1 1 (v:Int):=Zr.lit wa hv h0 (sg_false v).symm
 have hb2:=hb1.alloc (.cells #[.int .u64 (v:Int)] 50)
 obtain⟨wb,hwb⟩:∃wb,wa.alloc (.cells #[.int .u64 (v:Int)] 50)=wb:=⟨_,rfl⟩
 rw [hwb] at hlit hb2
 have heb:Ext w wb:=by rw [←hwb];exact hea.alloc _
 obtain⟨k1,k2,k3,k4⟩:=hb2.two
 go_wp2_with fail
 refine bodyPost_ret (res_int rfl rfl (hb2.two_set _ _)) rfl ?_
 exact fin_int hb2 hlit (by omega) (by omega) heb
set_option maxHeartbeats 4000000 in
theorem law_lowest {w:World}{base base':Nat}{s s':Bool}{A A':Option Addr}{n cap n' cap':Nat}{p q:Int}(hp:Zr w base s A n cap p) (hl:n≤17179869184) (hq:Zr w base' s' A' n' cap' q) (hl':n'≤17179869184) (hpos:0<q) (hco:Int.gcd p q=1):
  Calls Tryd.prog 49 #[.agg #[.bool s,.slice A n cap,.bool s',.slice A' n' cap']] w (BoolP true w):=by
 have HP:=Lib.hid hpos
 have HCO:=Lib.hid hco
 clear hpos hco
 go_enter Tryd.func49,Tryd.ntmps49
 go_upto_region 1 with (fail)
 obtain⟨g,wa,hg,hwa,hb1,hea,l2⟩:=boxesL1 w 26 [.bool s,.slice A n cap,.bool s',.slice A' n' cap']
 rw [hg,hwa]
 clear hwa hg
 obtain⟨⟨a0,a1,a2,a3⟩,a4⟩:=hb1.four
 go_wp2_with fail
 refine (bezout_Gcd (hp.zi.ext hea) (by omega) (hq.zi.ext hea) (by omega)).mono ?_
 rintro e w1 ⟨s1,A1,n1,c1,rfl,z1,hx1⟩
 rw [HCO.out] at z1
 have b1:n1≤1:=z1.le (by decide+kernel)
 clear a0 a1 a2 a3 a4
 go_upto_region 2 with (fail)
 obtain⟨g3,wb,hg3,hwb,hb3,heb,l3⟩:=boxesL1 w1 24 [.bool s1,.slice A1 n1 c1]
 rw [hg3,hwb]
 clear hwb hg3
 have hb1:=hb1.ext (hx1.trans heb)
 have z1:=z1.ext heb
 have ewb:=hea.trans (hx1.trans heb)
 clear hx1 heb
 obtain⟨⟨a0,a1,a2,a3⟩,a4⟩:=hb1.four
 obtain⟨f0,f1,f2,f3⟩:=hb3.two
 go_region_held3 (fun w'=>w'.cell? ⟨g,0,none⟩=some (.bool s)∧w'.cell? ⟨g,1,none⟩=some (.slice A n cap)∧w'.cell? ⟨g,2,none⟩=some (.bool s')∧w'.cell? ⟨g,3,none⟩=some (.slice A' n' cap')∧w'.cell? ⟨g3,0,none⟩=some (.bool s1)∧w'.cell? ⟨g3,1,none⟩=some (.slice A1 n1 c1)) (go_keep)
  (first
  | (go_at_call 11;(with_reducible refine (zint_Sign (hq.zi.ext (ewb.trans (by repeat (first | exact Ext.refl _ | assumption | apply Ext.drewN | apply Ext.drew | apply Ext.alloc)))) (by omega)).mono ?_);rintro e w2 ⟨c,hc,hcl,hch,rfl,hx2⟩;have he2:Ext wb w2:=Ext.trans (by repeat (first | exact Ext.refl _ | assumption | apply Ext.drewN | apply Ext.drew | apply Ext.alloc)) hx2;have hcp:0<c:=(by rw [hc.out];exact scmp_pos.2 HP.out);clear a0 a1 a2 a3 a4 f0 f1 f2 f3;obtain⟨⟨a0,a1,a2,a3⟩,a4⟩:=(hb1.ext he2).four;obtain⟨f0,f1,f2,f3⟩:=(hb3.ext he2).two)
  | (go_at_call 13;refine (zint_Of (v:=1) (by omega)).mono ?_;rintro e w3 ⟨s3,A3,n3,c3,rfl,z3,hx3⟩;have he3:Ext wb w3:=Ext.trans (by repeat (first | exact Ext.refl _ | assumption | apply Ext.drewN | apply Ext.drew | apply Ext.alloc)) hx3;have b3:n3≤1:=z3.le (by decide+kernel);clear a0 a1 a2 a3 a4 f0 f1 f2 f3;obtain⟨⟨a0,a1,a2,a3⟩,a4⟩:=(hb1.ext he3).four;obtain⟨f0,f1,f2,f3⟩:=(hb3.ext he3).two)
  | (go_at_call 16;(with_reducible refine (law_alike (z1.ext (by repeat (first | exact Ext.refl _ | assumption | apply Ext.drewN | apply Ext.drew | apply Ext.alloc))) (by omega) z3 (by omega) (b:=true) (by simp)).mono ?_);rintro e w4 ⟨rfl,hx4⟩;have he4:Ext wb w4:=Ext.trans (by repeat (first | exact Ext.refl _ | assumption | apply Ext.drewN | apply Ext.drew | apply Ext.alloc)) hx4;clear a0 a1 a2 a3 a4 f0 f1 f2 f3;obtain⟨⟨a0,a1,a2,a3⟩,a4⟩:=(hb1.ext he4).four;obtain⟨f0,f1,f2,f3⟩:=(hb3.ext he4).two)
  | (go_at_call 65;(with_reducible refine (zint_Least (hp.zi.ext (ewb.trans (by repeat (first | exact Ext.refl _ | assumption | apply Ext.drewN | apply Ext.drew | apply Ext.alloc)))) (by omega)).mono ?_);rintro e w5 ⟨s5,A5,n5,c5,rfl,z5,hx5⟩;have he5:Ext wb w5:=Ext.trans (by repeat (first | exact Ext.refl _ | assumption | apply Ext.drewN | apply Ext.drew | apply Ext.alloc)) hx5;have b5:n5≤17179869184:=(by rw [z5.len,←hp.len];exact hl);clear a0 a1 a2 a3 a4 f0 f1 f2 f3;obtain⟨⟨a0,a1,a2,a3⟩,a4⟩:=(hb1.ext he5).four;obtain⟨f0,f1,f2,f3⟩:=(hb3.ext he5).two)
  | (go_at_call 16;(with_reducible refine (law_alike (hp.ext (ewb.trans (by repeat (first | exact Ext.refl _ | assumption | apply Ext.drewN | apply Ext.drew | apply Ext.alloc)))) (by omega) z5 (by omega) (b:=true) (by simp)).mono ?_);rintro e w6 ⟨rfl,hx6⟩;have he6:Ext wb w6:=Ext.trans (by repeat (first | exact Ext.refl _ | assumption | apply Ext.drewN | apply Ext.drew | apply Ext.alloc)) hx6;clear a0 a1 a2 a3 a4 f0 f1 f2 f3;obtain⟨⟨a0,a1,a2,a3⟩,a4⟩:=(hb1.ext he6).four;obtain⟨f0,f1,f2,f3⟩:=(hb3.ext he6).two)
  | (go_at_call 65;(with_reducible refine (zint_Least (hq.zi.ext (ewb.trans (by repeat (first | exact Ext.refl _ | assumption | apply Ext.drewN | apply Ext.drew | apply Ext.alloc)))) (by omega)).mono ?_);rintro e w7 ⟨s7,A7,n7,c7,rfl,z7,hx7⟩;have he7:Ext wb w7:=Ext.trans (by repeat (first | exact Ext.refl _ | assumption | apply Ext.drewN | apply Ext.drew | apply Ext.alloc)) hx7;have b7:n7≤17179869184:=(by rw [z7.len,←hq.len];exact hl');clear a0 a1 a2 a3 a4 f0 f1 f2 f3;obtain⟨⟨a0,a1,a2,a3⟩,a4⟩:=(hb1.ext he7).four;obtain⟨f0,f1,f2,f3⟩:=(hb3.ext he7).two)
  | (go_at_call 16;(with_reducible refine (law_alike (hq.ext (ewb.trans (by repeat (first | exact Ext.refl _ | assumption | apply Ext.drewN | apply Ext.drew | apply Ext.alloc)))) (by omega) z7 (by omega) (b:=true) (by simp)).mono ?_);rintro e w8 ⟨rfl,hx8⟩;have he8:Ext wb w8:=Ext.trans (by repeat (first | exact Ext.refl _ | assumption | apply Ext.drewN | apply Ext.drew | apply Ext.alloc)) hx8;clear a0 a1 a2 a3 a4 f0 f1 f2 f3;obtain⟨⟨a0,a1,a2,a3⟩,a4⟩:=(hb1.ext he8).four;obtain⟨f0,f1,f2,f3⟩:=(hb3.ext he8).two))
 go_wp2_with fail
 go_ret
 exact⟨rfl,ewb.trans (by repeat (first | exact Ext.refl _ | assumption | apply Ext.drewN | apply Ext.drew | apply Ext.alloc))⟩
set_option maxHeartbeats 4000000 in
theorem law_names {w:World}{base base':Nat}{s s' t t':Bool}{A A' B B':Option Addr}{n cap n' cap' m dap m' dap':Nat}{p q x y:Int}(hp:Zr w base s A n cap p) (hl:n≤17179869184) (hq:Zr w base' s' A' n' cap' q) (hl':n'≤17179869184) (hx:Zi w t B m dap x) (hk:m≤17179869184) (hy:Zi w t' B' m' dap' y) (hk':m'≤17179869184) (hlow:Low p q x y):
  Calls Tryd.prog 17 #[.agg #[.bool s,.slice A n cap,.bool s',.slice A' n' cap'],.agg #[.bool t,.slice B m dap],.agg #[.bool t',.slice B' m' dap']] w (BoolP true w):=by
 have HLOW:=Lib.hid hlow
 have LX:=Lib.hid (Nat.le_trans hx.ln hk)
 have LY:=Lib.hid (Nat.le_trans hy.ln hk')
 have LP:=Lib.hid (Nat.le_trans hp.zi.ln hl)
 have LQ:=Lib.hid (Nat.le_trans hq.zi.ln hl')
 have HE:Hid (p*y=x*q):=hlow.eq
 clear hlow
 go_enter Tryd.func17,Tryd.ntmps17
 go_upto_region 1 with (fail)
 obtain⟨g,g2,g3,wb,hg3,hg2,hg,hwb,hb1,hb2,hb3,ewb,l12,l23,l3,n12,n21,n13,n31,n23,n32⟩:=boxesL3 w 26 24 24 [.bool s,.slice A n cap,.bool s',.slice A' n' cap'] [.bool t,.slice B m dap] [.bool t',.slice B' m' dap']
 rw [hg3,hg2,hg,hwb]
 clear hwb hg hg2 hg3
 obtain⟨⟨a0,a1,a2,a3⟩,a4⟩:=hb1.four
 obtain⟨f0,f1,f2,f3⟩:=hb2.two
 obtain⟨h0,h1,h2,h3⟩:=hb3.two
 go_region_held3 (fun w'=>w'.cell? ⟨g,0,none⟩=some (.bool s)∧w'.cell? ⟨g,1,none⟩=some (.slice A n cap)∧w'.cell? ⟨g,2,none⟩=some (.bool s')∧w'.cell? ⟨g,3,none⟩=some (.slice A' n' cap')∧w'.cell? ⟨g2,0,none⟩=some (.bool t)∧w'.cell? ⟨g2,1,none⟩=some (.slice B m dap)∧w'.cell? ⟨g3,0,none⟩=some (.bool t')∧w'.cell? ⟨g3,1,none⟩=some (.slice B' m' dap')) (go_keep)
  (first
  | (go_at_call 49;(with_reducible refine (law_lowest (hp.ext (ewb.trans (by repeat (first | exact Ext.refl _ | assumption | apply Ext.drewN | apply Ext.drew | apply Ext.alloc)))) hl (hq.ext (ewb.trans (by repeat (first | exact Ext.refl _ | assumption | apply Ext.drewN | apply Ext.drew | apply Ext.alloc)))) hl' HLOW.out.pos HLOW.out.co).mono ?_);rintro e w2 ⟨rfl,hx2⟩;have he2:Ext wb w2:=Ext.trans (by repeat (first | exact Ext.refl _ | assumption | apply Ext.drewN | apply Ext.drew | apply Ext.alloc)) hx2;clear a0 a1 a2 a3 a4 f0 f1 f2 f3 h0 h1 h2 h3;obtain⟨⟨a0,a1,a2,a3⟩,a4⟩:=(hb1.ext he2).four;obtain⟨f0,f1,f2,f3⟩:=(hb2.ext he2).two;obtain⟨h0,h1,h2,h3⟩:=(hb3.ext he2).two)
  | (go_at_call 23;(with_reducible refine (zint_Mul (hp.zi.ext (ewb.trans (by repeat (first | exact Ext.refl _ | assumption | apply Ext.drewN | apply Ext.drew | apply Ext.alloc)))) (by omega) (hy.ext (ewb.trans (by repeat (first | exact Ext.refl _ | assumption | apply Ext.drewN | apply Ext.drew | apply Ext.alloc)))) (by omega)).mono ?_);rintro e w5 ⟨s5,A5,n5,c5,rfl,z5,hx5⟩;have he5:Ext wb w5:=Ext.trans (by repeat (first | exact Ext.refl _ | assumption | apply Ext.drewN | apply Ext.drew | apply Ext.alloc)) hx5;have b5:n5≤1099511627776:=(Nat.le_trans (z5.le (ln_mul LP.out LY.out)) (by omega));(try have z6:=z6.ext hx5);clear a0 a1 a2 a3 a4 f0 f1 f2 f3 h0 h1 h2 h3;obtain⟨⟨a0,a1,a2,a3⟩,a4⟩:=(hb1.ext he5).four;obtain⟨f0,f1,f2,f3⟩:=(hb2.ext he5).two;obtain⟨h0,h1,h2,h3⟩:=(hb3.ext he5).two)
  | (go_at_call 23;(with_reducible refine (zint_Mul (hx.ext (ewb.trans (by repeat (first | exact Ext.refl _ | assumption | apply Ext.drewN | apply Ext.drew | apply Ext.alloc)))) (by omega) (hq.zi.ext (ewb.trans (by repeat (first | exact Ext.refl _ | assumption | apply Ext.drewN | apply Ext.drew | apply Ext.alloc)))) (by omega)).mono ?_);rintro e w6 ⟨s6,A6,n6,c6,rfl,z6,hx6⟩;have he6:Ext wb w6:=Ext.trans (by repeat (first | exact Ext.refl _ | assumption | apply Ext.drewN | apply Ext.drew | apply Ext.alloc)) hx6;have b6:n6≤1099511627776:=(Nat.le_trans (z6.le (ln_mul LX.out LQ.out)) (by omega));(try have z5:=z5.ext hx6);clear a0 a1 a2 a3 a4 f0 f1 f2 f3 h0 h1 h2 h3;obtain⟨⟨a0,a1,a2,a3⟩,a4⟩:=(hb1.ext he6).four;obtain⟨f0,f1,f2,f3⟩:=(hb2.ext he6).two;obtain⟨h0,h1,h2,h3⟩:=(hb3.ext he6).two)
  | (go_at_call 16;(with_reducible refine (law_alike z5 b5 z6 b6 (b:=true) (decide_eq_true HE.out).symm).mono ?_);rintro e w7 ⟨rfl,hx7⟩;have he7:Ext wb w7:=Ext.trans (by repeat (first | exact Ext.refl _ | assumption | apply Ext.drewN | apply Ext.drew | apply Ext.alloc)) hx7;clear a0 a1 a2 a3 a4 f0 f1 f2 f3 h0 h1 h2 h3;obtain⟨⟨a0,a1,a2,a3⟩,a4⟩:=(hb1.ext he7).four;obtain⟨f0,f1,f2,f3⟩:=(hb2.ext he7).two;obtain⟨h0,h1,h2,h3⟩:=(hb3.ext he7).two))
 all_goals
  go_wp2_with fail
  go_ret
  exact⟨rfl,ewb.trans (by repeat (first | exact Ext.refl _ | assumption | apply Ext.drewN | apply Ext.drew | apply Ext.alloc))⟩
theorem Zi.six (w:World):Zi (w.alloc (.cells #[.int .u64 6,.int .u64 0] 50)) true (some ⟨w.heap.size,0,none⟩) 2 2 (-6):=by
 refine⟨[6,0],?_,by decide⟩
 have h:Bk (w.alloc (.cells #[.int .u64 6,.int .u64 0] 50)) w.heap.size 50 ([6,0].map W64):=Bk.new w 50 [.int .u64 6,.int .u64 0]
 exact h.rd (o:=0) (n:=2) (cap:=2) (by intro x hx;simp at hx;rcases hx with rfl | rfl <;> decide) (Nat.le_refl _) (by simp) (by rw [len_maxLen];omega)
set_option maxHeartbeats 4000000 in
theorem law_awake (w:World):Calls Tryd.prog 7 #[] w (BoolP true w):=by
 go_enter Tryd.func7,Tryd.ntmps7
 go_wp2_with fail
 refine (law_whole (v:=4) (by omega) (by omega)).mono ?_
 rintro e w1 ⟨s1,A1,n1,c1,rfl,z1,hx1⟩
 have b1:n1≤1:=z1.le (by decide+kernel)
 go_wp2_with fail
 have h6:=Zi.six w1
 obtain⟨wc,hwc⟩:∃wc,w1.alloc (.cells #[.int .u64 6,.int .u64 0] 50)=wc:=⟨_,rfl⟩
 have hec:Ext w1 wc:=by rw [←hwc];exact (Ext.refl w1).alloc _
 rw [hwc] at h6⊢
 refine (frac_Of (z1.zi.ext hec) (by omega) h6 (by omega) (by decide)).mono ?_
 rintro e w2 ⟨p,q,hlow,s8,A8,n8,c8,s9,A9,n9,c9,rfl,z8,z9,hx2⟩
 obtain⟨hp,hq⟩:p= -2∧q=3:=lows_eq hlow.out.co (by decide) hlow.out.pos (by decide) (by have:=hlow.out.eq;omega)
 subst hp
 subst hq
 have b8:n8≤1:=z8.le (by decide+kernel)
 have b9:n9≤1:=z9.le (by decide+kernel)
 have e2:Ext w w2:=hx1.trans (hec.trans hx2)
 clear hwc hlow
 go_upto_region 2 with (fail)
 obtain⟨g,wb,hg,hwb,hb1,heb,l2⟩:=boxesL1 w2 26 [.bool s8,.slice A8 n8 c8,.bool s9,.slice A9 n9 c9]
 rw [hg,hwb]
 clear hwb hg
 have z8:=z8.ext heb
 have z9:=z9.ext heb
 have ewb:=e2.trans heb
 obtain⟨⟨a0,a1,a2,a3⟩,a4⟩:=hb1.four
 have hlit:Zr ((wb.alloc (.cells #[.int .u64 2] 50)).drew) wb.heap.size true (some ⟨wb.heap.size,0,none⟩) 1 1 (-2):=(Zr.lit wb (s:=true) (v:=2) (z:= -2) (by omega) (by omega) (by decide)).ext ((Ext.refl _).drew)
 go_region_held3 (fun w'=>w'.cell? ⟨g,0,none⟩=some (.bool s8)∧w'.cell? ⟨g,1,none⟩=some (.slice A8 n8 c8)∧w'.cell? ⟨g,2,none⟩=some (.bool s9)∧w'.cell? ⟨g,3,none⟩=some (.slice A9 n9 c9)) (go_keep)
  (first
  | (go_at_call 16;(with_reducible refine (law_alike (z8.ext (by repeat (first | exact Ext.refl _ | assumption | apply Ext.drewN | apply Ext.drew | apply Ext.alloc))) (by omega) hlit (by omega) (b:=true) (by decide)).mono ?_);rintro e w4 ⟨rfl,hx4⟩;have he4:Ext wb w4:=Ext.trans (by repeat (first | exact Ext.refl _ | assumption | apply Ext.drewN | apply Ext.drew | apply Ext.alloc)) hx4;clear a0 a1 a2 a3 a4;obtain⟨⟨a0,a1,a2,a3⟩,a4⟩:=(hb1.ext he4).four)
  | (go_at_call 37;refine (law_whole (v:=3) (by omega) (by omega)).mono ?_;rintro e w5 ⟨s5,A5,n5,c5,rfl,z5,hx5⟩;have he5:Ext wb w5:=Ext.trans (by repeat (first | exact Ext.refl _ | assumption | apply Ext.drewN | apply Ext.drew | apply Ext.alloc)) hx5;have b5:n5≤1:=z5.le (by decide+kernel);clear a0 a1 a2 a3 a4;obtain⟨⟨a0,a1,a2,a3⟩,a4⟩:=(hb1.ext he5).four)
  | (go_at_call 16;(with_reducible refine (law_alike (z9.ext (by repeat (first | exact Ext.refl _ | assumption | apply Ext.drewN | apply Ext.drew | apply Ext.alloc))) (by omega) z5 (by omega) (b:=true) (by simp)).mono ?_);rintro e w6 ⟨rfl,hx6⟩;have he6:Ext wb w6:=Ext.trans (by repeat (first | exact Ext.refl _ | assumption | apply Ext.drewN | apply Ext.drew | apply Ext.alloc)) hx6;clear a0 a1 a2 a3 a4;obtain⟨⟨a0,a1,a2,a3⟩,a4⟩:=(hb1.ext he6).four))
 go_wp2_with fail
 go_ret
 exact⟨rfl,ewb.trans (by repeat (first | exact Ext.refl _ | assumption | apply Ext.drewN | apply Ext.drew | apply Ext.alloc))⟩
theorem Zl.elem {w:World}{a:Addr}{n cap:Nat}{zs:List Int}{ms:List Nat}(h:Zl w (some a) n cap zs ms){i:Nat}(hi:i<n):
  ∃s B c,(∀w',Ext w w'→∀(P:Program) (T:TypeId),AggT P T 2→(loadVar T (a.add (i*2))).run P w'= .ok (.agg #[.bool s,.slice B (ms.getD i 0) c]) w')∧Zi w s B (ms.getD i 0) c (zs.getD i 0):=by
 obtain⟨a',s,B,c,ha,h1,h2,h3⟩:=h.get i hi
 cases ha
 refine⟨s,B,c,fun w' e P T hT=>load_at hT [.bool s,.slice B (ms.getD i 0) c] rfl (fun j hj=>?_),h3⟩
 rw [add_of_add]
 match j,hj with
 | 0,_=>exact e.cell h1
 | 1,_=>exact e.cell h2
theorem Zl.some {w:World}{A:Option Addr}{n cap:Nat}{zs:List Int}{ms:List Nat}(h:Zl w A n cap zs ms) (hn:0<n):∃a,A=some a:=by
 obtain⟨a,s,B,c,ha,_⟩:=h.get 0 hn
 exact⟨a,ha⟩
theorem elemInt:Tryd.prog.underlying 29=some (.slice 24):=by kernel_rfl
def FR (b:Nat) (p q:Int) (v:Value) (w:World):Prop:=∃s A n c s' A' n' c',v= .agg #[.bool s,.slice A n c,.bool s',.slice A' n' c']∧Zr w b s A n c p∧Zr w b s' A' n' c' q
theorem FR.imp {b b':Nat}{p q:Int}(hb:b≤b') (v:Value) (w:World) (h:FR b' p q v w):FR b p q v w:=by
 obtain⟨s,A,n,c,s',A',n',c',rfl,h1,h2⟩:=h
 exact⟨s,A,n,c,s',A',n',c',rfl,h1.mono hb,h2.mono hb⟩
theorem gfe {w:World}{b:Nat}{p q er:Int}(hb:b≤w.heap.size) (e:Ending) (w':World) (h:RetFE w p q er e w'):Gv w (T2 (FR b p q) (Is (.int .i64 er))) e w':=by
 obtain⟨s,A,n,c,s',A',n',c',rfl,h1,h2,h3⟩:=h
 exact⟨_,rfl,⟨_,_,rfl,⟨s,A,n,c,s',A',n',c',rfl,h1.mono hb,h2.mono hb⟩,rfl⟩,h3⟩
theorem g_frac_Of_bad {w:World}{b:Nat}(hb:b≤w.heap.size){s t:Bool}{A B:Option Addr}{n cap m cap':Nat}{y:Int}(hy:Zi w t B m cap' y) (hl':m≤68719476736) (h0:y=0):
  Calls Tryd.prog 36 #[.agg #[.bool s,.slice A n cap],.agg #[.bool t,.slice B m cap']] w (Gv w (T2 (FR b 0 0) (Is (.int .i64 4)))):=(frac_Of_bad hy hl' h0).mono (gfe hb)
theorem g_frac_Of {w:World}{b:Nat}(hb:b≤w.heap.size){s t:Bool}{A B:Option Addr}{n cap m cap':Nat}{x y:Int}(hx:Zi w s A n cap x) (hl:n≤68719476736) (hy:Zi w t B m cap' y) (hl':m≤68719476736) (h0:y≠0):
  Calls Tryd.prog 36 #[.agg #[.bool s,.slice A n cap],.agg #[.bool t,.slice B m cap']] w (fun e w'=>∃p q,Low p q x y∧Gv w (T2 (FR b p q) (Is (.int .i64 0))) e w'):=
 (frac_Of hx hl hy hl' h0).mono fun e w' h=>by
  obtain⟨p,q,h1,h2⟩:=h
  exact⟨p,q,h1.out,gfe hb e w' h2⟩
theorem g_frac_Of_low {w:World}{b:Nat}(hb:b≤w.heap.size){s t:Bool}{A B:Option Addr}{n cap m cap':Nat}{x y:Int}(hx:Zi w s A n cap x) (hl:n≤68719476736) (hy:Zi w t B m cap' y) (hl':m≤68719476736) (h0:0<y) (hg:Int.gcd x y=1):
  Calls Tryd.prog 36 #[.agg #[.bool s,.slice A n cap],.agg #[.bool t,.slice B m cap']] w (Gv w (T2 (FR b x y) (Is (.int .i64 0)))):=
 (g_frac_Of hb hx hl hy hl' (by omega)).mono fun e w' h=>by
  obtain⟨p,q,h1,h2⟩:=h
  obtain⟨rfl,rfl⟩:=lows_eq h1.co hg h1.pos h0 h1.eq
  exact h2
theorem Zl.ln {w:World}{A:Option Addr}{n cap:Nat}{zs:List Int}{ms:List Nat}(h:Zl w A n cap zs ms) (i:Nat) (hi:i<n):Go.Proofs.YtipklngcpmkfhaaDoor.ln (zs.getD i 0)≤ms.getD i 0:=by
 obtain⟨a,s,B,c,_,_,_,h4⟩:=h.get i hi
 exact h4.ln
theorem drop_cons {zs:List Int}{i:Nat}(h:i<zs.length):zs.drop i=zs.getD i 0::zs.drop (i+1):=by
 rw [List.drop_eq_getElem_cons h,List.getD_eq_getElem?_getD,List.getElem?_eq_getElem h];rfl
theorem g_law8_alike {w:World}{base base':Nat}{s t:Bool}{A B:Option Addr}{n cap m cap':Nat}{x y:Int}(hx:Zr w base s A n cap x) (hl:n≤1099511627776) (hy:Zr w base' t B m cap' y) (hl':m≤1099511627776) (h:x=y):
  Calls Tryd.prog 16 #[.agg #[.bool s,.slice A n cap],.agg #[.bool t,.slice B m cap']] w (Gv w (Is (.bool true))):=(law_alike hx hl hy hl' (b:=true) (decide_eq_true h).symm).mono gbool
theorem g_law8_names {w:World}{base base':Nat}{s s' t t':Bool}{A A' B B':Option Addr}{n cap n' cap' m dap m' dap':Nat}{p q x y:Int}(hp:Zr w base s A n cap p) (hl:n≤17179869184) (hq:Zr w base' s' A' n' cap' q) (hl':n'≤17179869184) (hx:Zi w t B m dap x) (hk:m≤17179869184) (hy:Zi w t' B' m' dap' y) (hk':m'≤17179869184) (hlow:Low p q x y):
  Calls Tryd.prog 17 #[.agg #[.bool s,.slice A n cap,.bool s',.slice A' n' cap'],.agg #[.bool t,.slice B m dap],.agg #[.bool t',.slice B' m' dap']] w (Gv w (Is (.bool true))):=(law_names hp hl hq hl' hx hk hy hk' hlow).mono gbool
theorem g_law8_is {w:World}{s s':Bool}{A A':Option Addr}{n cap n' cap':Nat}{y:Int}(hy:Zi w s' A' n' cap' y) (hl':n'≤68719476736){b:Bool}(hb:b=decide (y≠0)):
  Calls Tryd.prog 10 #[.agg #[.bool s,.slice A n cap,.bool s',.slice A' n' cap']] w (Gv w (Is (.bool b))):=(law_is hy hl' hb).mono gbool
theorem g_law8_like {w:World}{base base':Nat}{s s' t t':Bool}{A A' B B':Option Addr}{n cap n' cap' m dap m' dap':Nat}{x y u v:Int}(hx:Zr w base s A n cap x) (hl:n≤1099511627776) (hy:Zr w base s' A' n' cap' y) (hl':n'≤1099511627776)
  (hu:Zr w base' t B m dap u) (hk:m≤1099511627776) (hv:Zr w base' t' B' m' dap' v) (hk':m'≤1099511627776) (h1:x=u) (h2:y=v):
  Calls Tryd.prog 40 #[.agg #[.bool s,.slice A n cap,.bool s',.slice A' n' cap'],.agg #[.bool t,.slice B m dap,.bool t',.slice B' m' dap']] w (Gv w (Is (.bool true))):=(law_like hx hl hy hl' hu hk hv hk' h1 h2).mono gbool
theorem g_law8_awake (w:World):Calls Tryd.prog 7 #[] w (Gv w (Is (.bool true))):=(law_awake w).mono gbool
theorem ofNat_eq {c d:Nat}(hc:c<256) (hd:d<256):(UInt8.ofNat c==UInt8.ofNat d)=decide (c=d):=by
 by_cases h:c=d
 ·subst h;simp
 ·rw [decide_eq_false h,beq_eq_false_iff_ne]
  intro e
  have:=congrArg UInt8.toNat e
  rw [UInt8.toNat_ofNat',UInt8.toNat_ofNat'] at this
  omega
theorem idx_yes {a b:List Nat}{c:Nat}(hc:c<256) (ha:∀x,x∈a→x<256∧x≠c):Lib.indexByte ((a++c::b).map UInt8.ofNat) (UInt8.ofNat c)=(a.length:Int):=by
 induction a with
 | nil=>show (if UInt8.ofNat c==UInt8.ofNat c then (0:Int) else _)=0;rw [if_pos (by simp)]
 | cons x r ih=>
  have hx:=ha x List.mem_cons_self
  have ih:=ih fun y hy=>ha y (List.mem_cons_of_mem _ hy)
  show (if UInt8.ofNat x==UInt8.ofNat c then (0:Int) else if Lib.indexByte ((r++c::b).map UInt8.ofNat) (UInt8.ofNat c)== -1 then-1 else Lib.indexByte ((r++c::b).map UInt8.ofNat) (UInt8.ofNat c)+1)=_
  rw [ofNat_eq hx.1 hc,decide_eq_false hx.2,if_neg (by decide),ih,if_neg (by rw [beq_iff_eq];omega),List.length_cons]
  omega
theorem idx_no {a:List Nat}{c:Nat}(hc:c<256) (ha:∀x,x∈a→x<256∧x≠c):Lib.indexByte (a.map UInt8.ofNat) (UInt8.ofNat c)= -1:=by
 induction a with
 | nil=>rfl
 | cons x r ih=>
  have hx:=ha x List.mem_cons_self
  have ih:=ih fun y hy=>ha y (List.mem_cons_of_mem _ hy)
  show (if UInt8.ofNat x==UInt8.ofNat c then (0:Int) else if Lib.indexByte (r.map UInt8.ofNat) (UInt8.ofNat c)== -1 then-1 else Lib.indexByte (r.map UInt8.ofNat) (UInt8.ofNat c)+1)=_
  rw [ofNat_eq hx.1 hc,decide_eq_false hx.2,if_neg (by decide),ih,if_pos (by decide)]
theorem g_slIndex {w:World}{bs:List Nat}{i:Int}(h:Lib.indexByte (bs.map UInt8.ofNat) (UInt8.ofNat 47)=i):Calls Tryd.prog 106 #[.string (strB bs),.string (strB [47])] w (Gv w (Is (.int .i64 i))):=by
 refine (Tryd.stringslite_Index_one (strB bs) (UInt8.ofNat 47) w).mono ?_
 rintro e w' ⟨rfl,rfl⟩
 refine⟨_,rfl,?_,Ext.refl _⟩
 show Value.int .i64 (Lib.indexByte (strB bs).data.toList (UInt8.ofNat 47))=_
 rw [←h]
 unfold strB
 rw [List.toList_toArray]
set_option maxHeartbeats 4000000 in
theorem g_slCut_y {w:World}{a b:List Nat}(ha:∀x,x∈a→x<256∧x≠47) (hlen:(a++47::b).length≤1099511627776):
    Calls Tryd.prog 91 #[.string (strB (a++47::b)),.string (strB ([47]))] w (Gv w (T3 (Is (.string (strB a))) (Is (.string (strB b))) (Is (.bool true)))):=by
 refine sx_enter Tryd.func91 rfl (n:=23) rfl (bq rfl) (args:= [.string (strB (a++47::b)),.string (strB ([47]))]) (cw_keep [(0,.string (strB (a++47::b))),(1,.string (strB ([47])))] ⟨rfl,rfl,trivial⟩ (sr (mv 3 rfl (ne_ (cw_seq (sr (mv 2 rfl (cl (vs:= [.string (strB (a++47::b)),.string (strB ([47]))]) (Ext.refl w) (g_slIndex (bs:=a++47::b) (idx_yes (by decide) ha)) rfl (by kernel_rfl) fun xr3 v1 r3 e2 hw1=>?_))))))))
 obtain rfl:=r3
 refine mv 1 rfl (ne_ (cw_seq ?_))
 have hal:(a++47::b).length=a.length+1+b.length:=by simp;omega
 refine cw_region (mv 1 rfl (wl_cmp rfl rfl rfl true (cb_ge_t (a:=a.length) (b:=0) rfl rfl (by omega)) (by decide) (ne_ (cw_true rfl (cw_seq ?_)))))
 refine cw_draw mix 9 [3,4,5,6,7,8] [Is (.string (strB (a++47::b))),Is (.int .i64 ((a.length:Nat):Int)),Is (.string (strB ((a++47::b).take a.length))),Is (.string (strB (a++47::b))),Is (.int .i64 ((a.length:Nat):Int)),Is (.string (strB ([47]))),Is (.int .i64 1),Is (.int .i64 ((a.length+1:Nat):Int)),Is (.string (strB ((a++47::b).drop (a.length+1))))] [[],[],[0,1],[],[],[],[5],[4,6],[3,7]] [[],[],[0,1],[],[],[],[5],[4,5,6],[3,4,5,6,7],[0,1,2],[0,1,2,3,4,5,6,7,8,9],[0,1,2,3,4,5,6,7,8,9,10]] rfl
  (obs_cons rfl rfl (hob rfl rfl ?_) (obs_cons rfl rfl (hob rfl rfl ?_) (obs_cons rfl rfl (hob rfl rfl ?_) (obs_float rfl rfl (fob rfl ?_) (obs_float rfl rfl (fob rfl ?_) (obs_float rfl rfl (fob rfl ?_) (obs_float rfl rfl (fob rfl ?_) (obs_float rfl rfl (fob rfl ?_) (obs_float rfl rfl (fob rfl ?_) obs_nil))))))))) ?_
 · 
  exact fun _ _=>deps_nil (mv 1 rfl (pi_done rfl (Ext.refl _) rfl))
 · 
  exact fun _ _=>deps_nil (mv 1 rfl (pi_done rfl (Ext.refl _) rfl))
 · 
  exact fun _ _=>dk rfl rfl (dk rfl rfl (deps_nil (wl_strhi (bs:=a++47::b) (i:=a.length) rfl rfl rfl Tryd.underlying9 (by omega) (by decide) (pi_done rfl (Ext.refl _) rfl))))
 · 
  exact fun _ _=>deps_nil (⟨.string (strB (a++47::b)),rfl,rfl,fun _=>by kernel_rfl,rfl⟩)
 · 
  exact fun _ _=>deps_nil (⟨.int .i64 ((a.length:Nat):Int),rfl,rfl,fun _=>by kernel_rfl,rfl⟩)
 · 
  exact fun _ _=>deps_nil (⟨.string (strB ([47])),rfl,rfl,fun _=>by kernel_rfl,rfl⟩)
 · 
  exact fun _ _=>dk rfl rfl (deps_nil (⟨.int .i64 1,rfl,rfl,fun _=>by kernel_rfl,rfl⟩))
 · 
  exact fun _ _=>dk rfl rfl (dk rfl rfl (deps_nil (⟨.int .i64 ((a.length+1:Nat):Int),rfl,rfl,fun _=>(fl_ar rfl rfl ((a.length+1:Nat):Int) (ai_add (a:=a.length) (b:=1) rfl rfl (by omega))),rfl⟩)))
 · 
  exact fun _ _=>dk rfl rfl (dk rfl rfl (deps_nil (⟨.string (strB ((a++47::b).drop (a.length+1))),rfl,rfl,fun _=>fl_strlo (bs:=a++47::b) (i:=a.length+1) rfl rfl Tryd.underlying9 (by omega),rfl⟩)))
 · 
  intro v57 e58
  have hw2:=hw1.trans e58
  refine dk rfl rfl (dk rfl rfl (dk rfl rfl (dk rfl rfl (dk rfl rfl (dk rfl rfl (dk rfl rfl (dk rfl rfl (dk rfl rfl (deps_nil (mv 3 rfl (wl_nil (eo_np (eo_then ?_)))))))))))))
  refine cw_ret (eo_thenR (eo_ret [.string (strB ((a++47::b).take a.length)),.string (strB ((a++47::b).drop (a.length+1))),.bool true] rfl ⟨rfl,rfl,rfl,trivial⟩ ?_))
  exact⟨_,rfl,⟨_,_,_,rfl,(show Value.string _= .string (strB a) by rw [List.take_left]),(show Value.string _= .string (strB b) by rw [show a.length+1=(a++ [47]).length by simp,show a++47::b=(a++ [47])++b by simp,List.drop_left]),rfl⟩,hw2⟩
set_option maxHeartbeats 4000000 in
theorem g_slCut_n {w:World}{a b:List Nat}(ha:∀x,x∈a→x<256∧x≠47) (hlen:(a).length≤1099511627776):
    Calls Tryd.prog 91 #[.string (strB a),.string (strB ([47]))] w (Gv w (T3 (Is (.string (strB a))) (Is (.string (strB []))) (Is (.bool false)))):=by
 refine sx_enter Tryd.func91 rfl (n:=23) rfl (bq rfl) (args:= [.string (strB a),.string (strB ([47]))]) (cw_keep [(0,.string (strB a)),(1,.string (strB ([47])))] ⟨rfl,rfl,trivial⟩ (sr (mv 3 rfl (ne_ (cw_seq (sr (mv 2 rfl (cl (vs:= [.string (strB a),.string (strB ([47]))]) (Ext.refl w) (g_slIndex (bs:=a) (idx_no (by decide) ha)) rfl (by kernel_rfl) fun xr3 v1 r3 e2 hw1=>?_))))))))
 obtain rfl:=r3
 refine mv 1 rfl (ne_ (sr (mv 1 rfl (wl_cmp rfl rfl rfl false (by decide) (by decide) (ne_ (cw_false rfl (cw_skip (eo_then (sr (mv 4 rfl (ne_ (cw_ret (eo_ret [.string (strB a),.string (strB ([])),F0] rfl ⟨rfl,rfl,rfl,trivial⟩ ?_)))))))))))))
 exact⟨_,rfl,⟨_,_,_,rfl,rfl,rfl,rfl⟩,hw1⟩
set_option maxHeartbeats 4000000 in
theorem g_Cut_y {w:World}{a b:List Nat}(ha:∀x,x∈a→x<256∧x≠47) (hlen:(a++47::b).length≤1099511627776):
    Calls Tryd.prog 70 #[.string (strB (a++47::b)),.string (strB ([47]))] w (Gv w (T3 (Is (.string (strB a))) (Is (.string (strB b))) (Is (.bool true)))):=by
 refine sx_enter Tryd.func70 rfl (n:=13) rfl (bq rfl) (args:= [.string (strB (a++47::b)),.string (strB ([47]))]) (cw_keep [(0,.string (strB (a++47::b))),(1,.string (strB ([47])))] ⟨rfl,rfl,trivial⟩ (sr (mv 3 rfl (ne_ (sr (mv 2 rfl (cl (vs:= [.string (strB (a++47::b)),.string (strB ([47]))]) (Ext.refl w) (g_slCut_y ha hlen) rfl (by kernel_rfl) fun xr3 v1 r3 e2 hw1=>?_)))))))
 obtain⟨_,_,_,rfl,rfl,rfl,rfl⟩:=r3
 refine pu (v:= .string (strB a)) rfl (by kernel_rfl) (pu (v:= .string (strB b)) rfl (by kernel_rfl) (pu (v:= .bool true) rfl (by kernel_rfl) (mv 3 rfl (ne_ (cw_ret (eo_ret [.string (strB a),.string (strB b),.bool true] rfl ⟨rfl,rfl,rfl,trivial⟩ ?_))))))
 exact⟨_,rfl,⟨_,_,_,rfl,rfl,rfl,rfl⟩,hw1⟩
set_option maxHeartbeats 4000000 in
theorem g_Cut_n {w:World}{a b:List Nat}(ha:∀x,x∈a→x<256∧x≠47) (hlen:(a).length≤1099511627776):
    Calls Tryd.prog 70 #[.string (strB a),.string (strB ([47]))] w (Gv w (T3 (Is (.string (strB a))) (Is (.string (strB []))) (Is (.bool false)))):=by
 refine sx_enter Tryd.func70 rfl (n:=13) rfl (bq rfl) (args:= [.string (strB a),.string (strB ([47]))]) (cw_keep [(0,.string (strB a)),(1,.string (strB ([47])))] ⟨rfl,rfl,trivial⟩ (sr (mv 3 rfl (ne_ (sr (mv 2 rfl (cl (vs:= [.string (strB a),.string (strB ([47]))]) (Ext.refl w) (g_slCut_n (b:=b) ha hlen) rfl (by kernel_rfl) fun xr3 v1 r3 e2 hw1=>?_)))))))
 obtain⟨_,_,_,rfl,rfl,rfl,rfl⟩:=r3
 refine pu (v:= .string (strB a)) rfl (by kernel_rfl) (pu (v:= .string (strB ([]))) rfl (by kernel_rfl) (pu (v:= .bool false) rfl (by kernel_rfl) (mv 3 rfl (ne_ (cw_ret (eo_ret [.string (strB a),.string (strB ([])),F0] rfl ⟨rfl,rfl,rfl,trivial⟩ ?_))))))
 exact⟨_,rfl,⟨_,_,_,rfl,rfl,rfl,rfl⟩,hw1⟩
def txtF (p q:Int):List Nat:=if q=1 then txtZ p else (txtZ p++ [47])++txtZ q
theorem g_frac_Of_at {w:World}{b:Nat}(hb:b≤w.heap.size){s t:Bool}{A B:Option Addr}{n cap m cap':Nat}{x y p q:Int}(hlow:Low p q x y) (hx:Zi w s A n cap x) (hl:n≤68719476736) (hy:Zi w t B m cap' y) (hl':m≤68719476736):
  Calls Tryd.prog 36 #[.agg #[.bool s,.slice A n cap],.agg #[.bool t,.slice B m cap']] w (Gv w (T2 (FR b p q) (Is (.int .i64 0)))):=by
 have h0:y≠0:=fun e=>by have:=hlow.nq;have:=hlow.pos;subst e;simp at*;omega
 refine (g_frac_Of hb hx hl hy hl' h0).mono fun e w' h=>?_
 obtain⟨p',q',h1,h2⟩:=h
 obtain⟨rfl,rfl⟩:=low_uniq hlow h1
 exact h2
theorem low_self {p q x y:Int}(h:Low p q x y):Low p q p q:=⟨h.pos,h.co,rfl,Nat.le_refl _,Nat.le_refl _⟩
theorem g_ztxt_f {w:World}{s:Bool}{A:Option Addr}{n c:Nat}{x:Int}{t:List Nat}(ht:t=txtZ x) (hx:Zi w s A n c x) (la:n≤4194304) (hS:Signs w):Calls Tryd.prog 21 #[.agg #[.bool s,.slice A n c]] w (Gv w (Is (.string (strB t)))):=by subst ht;exact rx_zTextF hx la hS
theorem txtZ_form (x:Int):(∀b,b∈txtZ x→b<256∧b≠47)∧ztl (txtZ x)=txtN 10 x.natAbs∧zval (txtZ x)=x:=by
 have hd:=txtN_digs (m:=x.natAbs)
 have hf:=hd.1 _ (getD_mem0 (l:=txtN 10 x.natAbs) (i:=0) (List.length_pos_iff.2 hd.2))
 have h0:=hd.2
 have hv:=vald_digs10 (m:=x.natAbs)
 unfold txtZ
 generalize txtN 10 x.natAbs=T at*
 obtain⟨c,r,rfl⟩:∃c r,T=c::r:=by
  cases T with
  | nil=>exact absurd rfl h0
  | cons c r=>exact⟨c,r,rfl⟩
 have hf:48≤c∧c≤57:=hf
 by_cases h:x<0
 ·rw [if_pos h]
  have hz:ztl ([45]++c::r)=c::r:=by
   unfold ztl
   rw [if_neg (by show¬ [45]= [43];decide),if_pos (show List.take 1 ([45]++c::r)= [45] from rfl)];rfl
  have hng:zng ([45]++c::r)=true:=by
   unfold zng
   rw [if_neg (by show¬ [45]= [43];decide),if_pos (show List.take 1 ([45]++c::r)= [45] from rfl)]
  refine⟨fun b hb=>?_,hz,?_⟩
  ·rcases List.mem_append.1 hb with hb | hb
   ·rw [List.mem_singleton.1 hb];decide
   ·have:=hd.1 b hb;omega
  ·rw [zval_neg hz hng,hv];omega
 ·rw [if_neg h]
  have e1:∀d:Nat,d=43∨d=45→¬List.take 1 (c::r)= [d]:=fun d hd e=>by
   have:c=d:=by simpa using e
   omega
  have e3:¬List.take 3 (c::r)= [226,136,146]:=fun e=>by
   have h:=congrArg (fun l=>l.getD 0 0) e
   have:c=226:=h
   omega
  have hz:ztl (c::r)=c::r:=by unfold ztl;rw [if_neg (e1 43 (Or.inl rfl)),if_neg (e1 45 (Or.inr rfl)),if_neg e3]
  have hng:zng (c::r)=false:=by unfold zng;rw [if_neg (e1 43 (Or.inl rfl)),if_neg (e1 45 (Or.inr rfl)),if_neg e3]
  refine⟨fun b hb=>by have:=hd.1 b hb;omega,hz,?_⟩
  rw [zval_pos hz hng,hv];omega
theorem txtZ_lenF {x:Int}(h:ln x≤1048576):(txtZ x).length≤67108866:=by
 have h2:(txtN 10 x.natAbs).length≤67108865:=txtN_len (b:=10) (n:=1048576) (by decide) h
 rw [txtZ_sg,List.append_nil,List.length_append]
 have:(if decide (x<0)=true then [45] else ([]:List Nat)).length≤1:=by split <;> simp
 omega
theorem txtZ_posF {q:Int}(h:0<q):txtZ q=txtN 10 q.natAbs:=by unfold txtZ;rw [if_neg (by omega)]
set_option maxHeartbeats 4000000 in
theorem g_fText_bad {w:World}{sa:Bool}{Aa:Option Addr}{na ca:Nat}{x:Int}{sd:Bool}{Ad:Option Addr}{nd cd:Nat}{y:Int}(hx:Zi w sa Aa na ca x) (la:na≤1048576) (hy:Zi w sd Ad nd cd y) (ld:nd≤1048576) (h0:y=0):
    Calls Tryd.prog 38 #[.agg #[.bool sa,.slice Aa na ca,.bool sd,.slice Ad nd cd]] w (Gv w (T2 (Is (.string (strB []))) (Is (.int .i64 4)))):=by
 have Lx:ln x≤1048576:=Nat.le_trans hx.ln la
 have Ly:ln y≤1048576:=Nat.le_trans hy.ln ld
 refine sx_enter Tryd.func38 rfl (n:=33) rfl (bq rfl) (args:= [.agg #[.bool sa,.slice Aa na ca,.bool sd,.slice Ad nd cd]]) (cw_keep [(0,.agg #[.bool sa,.slice Aa na ca,.bool sd,.slice Ad nd cd])] ⟨rfl,trivial⟩ (sr (bx [.bool sa,.slice Aa na ca,.bool sd,.slice Ad nd cd] (Ext.refl w) rfl rfl rfl fun g1 v2 hb4 ge5 e3 hw1=>(mv 2 rfl (ne_ (sr (pf g1 0 rfl (by kernel_rfl) (lo aggInt hb4 [.bool sa,.slice Aa na ca] rfl rfl rfl (pf g1 2 rfl (by kernel_rfl) (lo aggInt hb4 [.bool sd,.slice Ad nd cd] rfl rfl rfl (cl (vs:= [.agg #[.bool sa,.slice Aa na ca],.agg #[.bool sd,.slice Ad nd cd]]) hw1 (g_frac_Of_bad hw1.size (hy.ext hw1) (lx_ ld rfl) h0) rfl (by kernel_rfl) fun xr8 v6 r8 e7 hw2=>?_)))))))))))
 obtain⟨_,_,rfl,⟨s10,A10,n10,c10,t10,B10,m10,d10,rfl,z10,y10⟩,rfl⟩:=r8
 refine mv 1 rfl (pu (v:= .agg #[.bool s10,.slice A10 n10 c10,.bool t10,.slice B10 m10 d10]) rfl (by kernel_rfl) (pu (v:= .int .i64 4) rfl (by kernel_rfl) (alq [F0,S0,F0,S0] hw2 (hb4.ext e7).lt (fun _=>by kernel_rfl) rfl fun g11 v12 hb14 ge15 q16 e13 hw3=>(so aggFrac hb14 [.bool s10,.slice A10 n10 c10,.bool t10,.slice B10 m10 d10] hw3 ge15 rfl rfl rfl rfl fun v17 hb19 u20 hw4=>(mv 1 rfl (ne_ (cw_seq (sr (mv 1 rfl (wl_cmp rfl rfl rfl true (by decide) (by decide) (ne_ (cw_true rfl (cw_seq ?_)))))))))))))
 refine cw_region (mv 3 rfl (ne_ (cw_ret (eo_thenR (eo_ret [.string (strB ([])),.int .i64 4] rfl ⟨rfl,rfl,trivial⟩ ?_)))))
 exact⟨_,rfl,⟨_,_,rfl,rfl,rfl⟩,hw4⟩
set_option maxHeartbeats 4000000 in
theorem g_fText {w:World}{p q:Int}{sa:Bool}{Aa:Option Addr}{na ca:Nat}{x:Int}{sd:Bool}{Ad:Option Addr}{nd cd:Nat}{y:Int}(hx:Zi w sa Aa na ca x) (la:na≤1048576) (hy:Zi w sd Ad nd cd y) (ld:nd≤1048576) (hS:Signs w) (hlow:Low p q x y):
    Calls Tryd.prog 38 #[.agg #[.bool sa,.slice Aa na ca,.bool sd,.slice Ad nd cd]] w (Gv w (T2 (Is (.string (strB (txtF p q)))) (Is (.int .i64 0)))):=by
 have Lx:ln x≤1048576:=Nat.le_trans hx.ln la
 have Ly:ln y≤1048576:=Nat.le_trans hy.ln ld
 have Lp:ln p≤1048576:=Nat.le_trans (ln_mono hlow.np) Lx
 have Lq:ln q≤1048576:=Nat.le_trans (ln_mono hlow.nq) Ly
 have hqp:=hlow.pos
 obtain⟨sp,hsp⟩:∃t,t=txtZ p:=⟨_,rfl⟩
 obtain⟨sq,hsq⟩:∃t,t=txtZ q:=⟨_,rfl⟩
 have hspl:sp.length≤67108866:=hsp▸txtZ_lenF Lp
 have hsql:sq.length≤67108866:=hsq▸txtZ_lenF Lq
 refine sx_enter Tryd.func38 rfl (n:=33) rfl (bq rfl) (args:= [.agg #[.bool sa,.slice Aa na ca,.bool sd,.slice Ad nd cd]]) (cw_keep [(0,.agg #[.bool sa,.slice Aa na ca,.bool sd,.slice Ad nd cd])] ⟨rfl,trivial⟩ (sr (bx [.bool sa,.slice Aa na ca,.bool sd,.slice Ad nd cd] (Ext.refl w) rfl rfl rfl fun g1 v2 hb4 ge5 e3 hw1=>(mv 2 rfl (ne_ (sr (pf g1 0 rfl (by kernel_rfl) (lo aggInt hb4 [.bool sa,.slice Aa na ca] rfl rfl rfl (pf g1 2 rfl (by kernel_rfl) (lo aggInt hb4 [.bool sd,.slice Ad nd cd] rfl rfl rfl (cl (vs:= [.agg #[.bool sa,.slice Aa na ca],.agg #[.bool sd,.slice Ad nd cd]]) hw1 (g_frac_Of_at hw1.size hlow (hx.ext hw1) (lx_ la rfl) (hy.ext hw1) (lx_ ld rfl)) rfl (by kernel_rfl) fun xr8 v6 r8 e7 hw2=>?_)))))))))))
 obtain⟨_,_,rfl,⟨s10,A10,n10,c10,t10,B10,m10,d10,rfl,z10,y10⟩,rfl⟩:=r8
 refine mv 1 rfl (pu (v:= .agg #[.bool s10,.slice A10 n10 c10,.bool t10,.slice B10 m10 d10]) rfl (by kernel_rfl) (pu (v:= .int .i64 0) rfl (by kernel_rfl) (alq [F0,S0,F0,S0] hw2 (hb4.ext e7).lt (fun _=>by kernel_rfl) rfl fun g11 v12 hb14 ge15 q16 e13 hw3=>(so aggFrac hb14 [.bool s10,.slice A10 n10 c10,.bool t10,.slice B10 m10 d10] hw3 ge15 rfl rfl rfl rfl fun v17 hb19 u20 hw4=>(mv 1 rfl (ne_ (cw_seq (sr (mv 1 rfl (wl_cmp rfl rfl rfl false (by decide) (by decide) (ne_ (cw_false rfl (cw_skip ?_)))))))))))))
 refine eo_then (cw_seq (cw_seq ?_))
 by_cases h1:q=1
 · 
  refine cw_draw mix 5 [] [Is (.pointer (some ⟨g11,2,none⟩)),Is (.agg #[.bool t10,.slice B10 m10 d10]),ZR w.heap.size (1),Is (.int .i64 (scmp q 1)),Is (.bool true)] [[],[0],[],[1,2],[3]] [[],[0],[],[0,1,2],[0,1,2,3]] rfl
   (obs_cons rfl rfl (hob rfl rfl ?_) (obs_cons rfl rfl (hob rfl rfl ?_) (obs_cons rfl rfl (hob rfl rfl ?_) (obs_cons rfl rfl (hob rfl rfl ?_) (obs_cons rfl rfl (hob rfl rfl ?_) obs_nil))))) ?_
  · 
   exact fun _ _=>deps_nil (pf g11 2 rfl (by kernel_rfl) (pi_done rfl (Ext.refl _) rfl))
  · 
   exact fun _ e26=>dk rfl rfl (deps_nil (lo aggInt (hb19.ext e26) [.bool t10,.slice B10 m10 d10] rfl rfl rfl (pi_done rfl (Ext.refl _) rfl)))
  · 
   intro v32 e33
   have hw5:=hw4.trans e33
   refine deps_nil (cl (vs:= [.int .i64 1]) hw5 (g_zint_Of hw5.size (by decide) (by decide)) rfl (by kernel_rfl) fun xr36 v34 r36 e35 hw6=>?_)
   obtain⟨s37,A37,n37,c37,rfl,z37⟩:=r36
   exact pi_done rfl e35 ⟨_,_,_,_,rfl,z37⟩
  · 
   intro v38 e39
   have hw5:=hw4.trans e39
   refine dk rfl rfl (deps_cons rfl rfl fun x45 y46 h47 e48 f49=>?_)
   obtain⟨s50,A50,n50,c50,rfl,z50⟩:=h47
   have z50:=z50.ext f49
   refine deps_nil (cl (vs:= [.agg #[.bool t10,.slice B10 m10 d10],.agg #[.bool s50,.slice A50 n50 c50]]) hw5 (g_zint_Cmp (((y10.ext e13).updT hb14 u20).ext e39).zi (y10.le (lx_ Lq rfl)) z50.zi (z50.le (Nat.le_trans (show ln (1)≤1 by decide+kernel) (by decide)))) rfl (by kernel_rfl) fun xr53 v51 r53 e52 hw6=>?_)
   obtain rfl:=r53
   exact pi_done rfl e52 rfl
  · 
   exact fun _ _=>dk rfl rfl (deps_nil (wl_cmp rfl rfl rfl true (eq_t (scmp_zero.2 h1)) (by decide) (pi_done rfl (Ext.refl _) rfl)))
  · 
   intro v61 e62
   have hw5:=hw4.trans e62
   refine dk rfl rfl (dk rfl rfl (deps_cons rfl rfl fun x73 y74 h75 e76 f77=>?_))
   obtain⟨s78,A78,n78,c78,rfl,z78⟩:=h75
   have z78:=z78.ext f77
   refine dk rfl rfl (dk rfl rfl (deps_nil (wl_nil (eo_np (eo_then (cw_true rfl (sr (pf g11 0 rfl (by kernel_rfl) (lo aggInt (hb19.ext e62) [.bool s10,.slice A10 n10 c10] rfl rfl rfl (cl (vs:= [.agg #[.bool s10,.slice A10 n10 c10]]) hw5 (g_ztxt_f hsp (((z10.ext e13).updT hb14 u20).ext e62).zi (z10.le (lx_ Lp rfl)) (hS.ext hw5)) rfl (by kernel_rfl) fun xr91 v89 r91 e90 hw6=>?_))))))))))
   obtain rfl:=r91
   refine mv 2 rfl (ne_ (cw_ret (eo_thenR (eo_ret [.string (strB sp),I0] rfl ⟨rfl,rfl,trivial⟩ ?_))))
   exact⟨_,rfl,⟨_,_,rfl,(show Value.string _= .string (strB (txtF p q)) by unfold txtF;rw [if_pos h1,←hsp]),rfl⟩,hw6⟩
 · 
  refine cw_draw mix 5 [] [Is (.pointer (some ⟨g11,2,none⟩)),Is (.agg #[.bool t10,.slice B10 m10 d10]),ZR w.heap.size (1),Is (.int .i64 (scmp q 1)),Is (.bool false)] [[],[0],[],[1,2],[3]] [[],[0],[],[0,1,2],[0,1,2,3]] rfl
   (obs_cons rfl rfl (hob rfl rfl ?_) (obs_cons rfl rfl (hob rfl rfl ?_) (obs_cons rfl rfl (hob rfl rfl ?_) (obs_cons rfl rfl (hob rfl rfl ?_) (obs_cons rfl rfl (hob rfl rfl ?_) obs_nil))))) ?_
  · 
   exact fun _ _=>deps_nil (pf g11 2 rfl (by kernel_rfl) (pi_done rfl (Ext.refl _) rfl))
  · 
   exact fun _ e96=>dk rfl rfl (deps_nil (lo aggInt (hb19.ext e96) [.bool t10,.slice B10 m10 d10] rfl rfl rfl (pi_done rfl (Ext.refl _) rfl)))
  · 
   intro v102 e103
   have hw5:=hw4.trans e103
   refine deps_nil (cl (vs:= [.int .i64 1]) hw5 (g_zint_Of hw5.size (by decide) (by decide)) rfl (by kernel_rfl) fun xr106 v104 r106 e105 hw6=>?_)
   obtain⟨s107,A107,n107,c107,rfl,z107⟩:=r106
   exact pi_done rfl e105 ⟨_,_,_,_,rfl,z107⟩
  · 
   intro v108 e109
   have hw5:=hw4.trans e109
   refine dk rfl rfl (deps_cons rfl rfl fun x115 y116 h117 e118 f119=>?_)
   obtain⟨s120,A120,n120,c120,rfl,z120⟩:=h117
   have z120:=z120.ext f119
   refine deps_nil (cl (vs:= [.agg #[.bool t10,.slice B10 m10 d10],.agg #[.bool s120,.slice A120 n120 c120]]) hw5 (g_zint_Cmp (((y10.ext e13).updT hb14 u20).ext e109).zi (y10.le (lx_ Lq rfl)) z120.zi (z120.le (Nat.le_trans (show ln (1)≤1 by decide+kernel) (by decide)))) rfl (by kernel_rfl) fun xr123 v121 r123 e122 hw6=>?_)
   obtain rfl:=r123
   exact pi_done rfl e122 rfl
  · 
   exact fun _ _=>dk rfl rfl (deps_nil (wl_cmp rfl rfl rfl false (eq_f (fun e=>h1 (scmp_zero.1 e))) (by decide) (pi_done rfl (Ext.refl _) rfl)))
  · 
   intro v131 e132
   have hw5:=hw4.trans e132
   refine dk rfl rfl (dk rfl rfl (deps_cons rfl rfl fun x143 y144 h145 e146 f147=>?_))
   obtain⟨s148,A148,n148,c148,rfl,z148⟩:=h145
   have z148:=z148.ext f147
   refine dk rfl rfl (dk rfl rfl (deps_nil (wl_nil (eo_np (eo_then (cw_false rfl (cw_skip (eo_then (cw_seq ?_)))))))))
   refine cw_draw mix 8 [] [Is (.pointer (some ⟨g11,0,none⟩)),Is (.agg #[.bool s10,.slice A10 n10 c10]),Is (.string (strB sp)),Is (.string (strB (sp++([47])))),Is (.pointer (some ⟨g11,2,none⟩)),Is (.agg #[.bool t10,.slice B10 m10 d10]),Is (.string (strB sq)),Is (.string (strB ((sp++([47]))++sq)))] [[],[0],[1],[2],[],[4],[5],[3,6]] [[],[0],[0,1],[0,1,2],[],[4],[0,1,2,4,5],[0,1,2,3,4,5,6],[0,1,2,3,4,5,6,7],[0,1,2,3,4,5,6,7,8]] rfl
    (obs_cons rfl rfl (hob rfl rfl ?_) (obs_cons rfl rfl (hob rfl rfl ?_) (obs_cons rfl rfl (hob rfl rfl ?_) (obs_cons rfl rfl (hob rfl rfl ?_) (obs_cons rfl rfl (hob rfl rfl ?_) (obs_cons rfl rfl (hob rfl rfl ?_) (obs_cons rfl rfl (hob rfl rfl ?_) (obs_cons rfl rfl (hob rfl rfl ?_) obs_nil)))))))) ?_
   · 
    exact fun _ _=>deps_nil (pf g11 0 rfl (by kernel_rfl) (pi_done rfl (Ext.refl _) rfl))
   · 
    exact fun _ e162=>dk rfl rfl (deps_nil (lo aggInt (hb19.ext (e132.trans e162)) [.bool s10,.slice A10 n10 c10] rfl rfl rfl (pi_done rfl (Ext.refl _) rfl)))
   · 
    intro v168 e169
    have hw6:=hw5.trans e169
    refine dk rfl rfl (deps_nil (cl (vs:= [.agg #[.bool s10,.slice A10 n10 c10]]) hw6 (g_ztxt_f hsp (((z10.ext e13).updT hb14 u20).ext (e132.trans e169)).zi (z10.le (lx_ Lp rfl)) (hS.ext hw6)) rfl (by kernel_rfl) fun xr177 v175 r177 e176 hw7=>?_))
    obtain rfl:=r177
    exact pi_done rfl e176 rfl
   · 
    exact fun _ _=>dk rfl rfl (deps_nil (wl_op rfl rfl rfl (r:= .string (strB (sp++([47])))) rfl (fun w=>str_add (a:=sp) (b:= [47]) (by simp only [List.length_append,List.length_cons,List.length_nil];omega)) (by decide) (pi_done rfl (Ext.refl _) rfl)))
   · 
    exact fun _ _=>deps_nil (pf g11 2 rfl (by kernel_rfl) (pi_done rfl (Ext.refl _) rfl))
   · 
    exact fun _ e188=>dk rfl rfl (deps_nil (lo aggInt (hb19.ext (e132.trans e188)) [.bool t10,.slice B10 m10 d10] rfl rfl rfl (pi_done rfl (Ext.refl _) rfl)))
   · 
    intro v194 e195
    have hw6:=hw5.trans e195
    refine dk rfl rfl (deps_nil (cl (vs:= [.agg #[.bool t10,.slice B10 m10 d10]]) hw6 (g_ztxt_f hsq (((y10.ext e13).updT hb14 u20).ext (e132.trans e195)).zi (y10.le (lx_ Lq rfl)) (hS.ext hw6)) rfl (by kernel_rfl) fun xr203 v201 r203 e202 hw7=>?_))
    obtain rfl:=r203
    exact pi_done rfl e202 rfl
   · 
    exact fun _ _=>dk rfl rfl (dk rfl rfl (deps_nil (wl_op rfl rfl rfl (r:= .string (strB ((sp++([47]))++sq))) rfl (fun w=>str_add (a:=sp++([47])) (b:=sq) (by simp only [List.length_append,List.length_cons,List.length_nil];omega)) (by decide) (pi_done rfl (Ext.refl _) rfl))))
   · 
    intro v216 e217
    have hw6:=hw5.trans e217
    refine dk rfl rfl (dk rfl rfl (dk rfl rfl (dk rfl rfl (dk rfl rfl (dk rfl rfl (dk rfl rfl (dk rfl rfl (deps_nil (mv 2 rfl (wl_nil (eo_np (eo_then (cw_ret ?_)))))))))))))
    refine eo_ret [.string (strB ((sp++([47]))++sq)),I0] rfl ⟨rfl,rfl,trivial⟩ ?_
    exact⟨_,rfl,⟨_,_,rfl,(show Value.string _= .string (strB (txtF p q)) by unfold txtF;rw [if_neg h1,←hsp,←hsq]),rfl⟩,hw6⟩
theorem g_Cut_y_ {w:World}{a b s:List Nat}(hs:s=a++47::b) (ha:∀x,x∈a→x<256∧x≠47) (hlen:(a++47::b).length≤1099511627776):Calls Tryd.prog 70 #[.string (strB s),.string (strB [47])] w (Gv w (T3 (Is (.string (strB a))) (Is (.string (strB b))) (Is (.bool true)))):=by subst hs;exact g_Cut_y ha hlen
theorem g_rdec_q {w:World}{q:Int}(hq:0<q) (hlen:(txtZ q).length≤17179869184):Calls Tryd.prog 57 #[.string (strB (txtZ q))] w (Gv w (T2 (WR w.heap.size (Int.natAbs q)) (Is (.int .i64 0)))):=by
 rw [txtZ_posF hq] at hlen⊢
 have h:=rx_ReadDec_good (w:=w) (bs:=txtN 10 q.natAbs) (fun b hb=>by have:=txtN_digs.1 b hb;omega) hlen (txtN_digs.1.good txtN_digs.2)
 rw [vald_digs10] at h
 exact h
theorem g_frac_Of_as {w:World}{b:Nat}(hb:b≤w.heap.size){s t:Bool}{A B:Option Addr}{n cap m cap':Nat}{p q y:Int}(he:y=q) (hlow:Low p q p q) (hx:Zi w s A n cap p) (hl:n≤68719476736) (hy:Zi w t B m cap' y) (hl':m≤68719476736):
  Calls Tryd.prog 36 #[.agg #[.bool s,.slice A n cap],.agg #[.bool t,.slice B m cap']] w (Gv w (T2 (FR b p q) (Is (.int .i64 0)))):=by subst he;exact g_frac_Of_at hb hlow hx hl hy hl'
set_option maxHeartbeats 4000000 in
theorem g_fRead_one {w:World}{p q:Int}{b:Nat}(hb:b≤w.heap.size) (hself:Low p q p q) (Lp:ln p≤1048576) (Lq:ln q≤1048576) (h1:q=1):
    Calls Tryd.prog 39 #[.string (strB (txtZ p))] w (Gv w (T2 (FR b p q) (Is (.int .i64 0)))):=by
 have hqp:=hself.pos
 have hpf:=txtZ_form p
 have hpl:=txtZ_lenF Lp
 have hql:=txtZ_lenF Lq
 refine sx_enter Tryd.func39 rfl (n:=42) rfl (bq rfl) (args:= [.string (strB (txtZ p))]) (cw_keep [(0,.string (strB (txtZ p)))] ⟨rfl,trivial⟩ (sr (al [F0,S0,F0,S0] (Ext.refl w) (fun _=>by kernel_rfl) rfl fun g1 v2 hb4 ge5 e3 hw1=>(mv 1 rfl (ne_ (sr (mv 1 rfl (cl (vs:= [.string (strB (txtZ p)),.string (strB ([47]))]) hw1 (g_Cut_n (a:=txtZ p) (b:= []) hpf.1 (by omega)) rfl (by kernel_rfl) fun xr8 v6 r8 e7 hw2=>?_))))))))
 obtain⟨_,_,_,rfl,rfl,rfl,rfl⟩:=r8
 refine mv 1 rfl (pu (v:= .string (strB (txtZ p))) rfl (by kernel_rfl) (pu (v:= .string (strB ([]))) rfl (by kernel_rfl) (pu (v:= .bool false) rfl (by kernel_rfl) (mv 3 rfl (ne_ (sr (mv 1 rfl (cl (vs:= [.string (strB (txtZ p))]) hw2 (rx_zRead hw2.size (fun b hb=>(hpf.1 b hb).1) (by omega) hpf.2.1 (txtN_digs.1.good txtN_digs.2) hpf.2.2) rfl (by kernel_rfl) fun xr12 v10 r12 e11 hw3=>?_))))))))
 obtain⟨_,_,rfl,⟨s14,A14,n14,c14,rfl,z14⟩,rfl⟩:=r12
 refine mv 1 rfl (pu (v:= .agg #[.bool s14,.slice A14 n14 c14]) rfl (by kernel_rfl) (pu (v:= .int .i64 0) rfl (by kernel_rfl) (alq [F0,S0] hw3 (hb4.ext (e7.trans e11)).lt (fun _=>by kernel_rfl) rfl fun g15 v16 hb18 ge19 q20 e17 hw4=>(so aggInt hb18 [.bool s14,.slice A14 n14 c14] hw4 ge19 rfl rfl rfl rfl fun v21 hb23 u24 hw5=>(mv 1 rfl (ne_ (cw_seq (sr (mv 1 rfl (wl_cmp rfl rfl rfl false (by decide) (by decide) (ne_ (cw_false rfl (cw_skip ?_)))))))))))))
 refine eo_then (sr (wl_bslice rfl rfl (by decide) (k:=1) (e:=50) [.int .u64 1] (fun _=>by kernel_rfl) fun g26 v27 nb28=>?_))
 have o29:=O1.mk_ (x:=1) (b:=w.heap.size) nb28 hw5.size
 have e30:=nb28.ext
 have hw6:=hw5.trans e30
 have o32:=own1_wd o29 (show 1≤18446744073709551615 by decide) (show 1≠0 by decide)
 have j31:=len1 (show 1≤18446744073709551615 by decide) (show 1≠0 by decide)
 refine mv 1 rfl (ne_ (cw_seq (sr (mv 1 rfl (ne_ (cw_false rfl (cw_skip (eo_then (sr (lo aggInt (hb23.ext e30) [.bool s14,.slice A14 n14 c14] rfl rfl rfl (mv 1 rfl (pu (v:= .agg #[F0,.slice (some ⟨g26,0,none⟩) 1 1]) rfl (by kernel_rfl) (cl (vs:= [.agg #[.bool s14,.slice A14 n14 c14],.agg #[F0,.slice (some ⟨g26,0,none⟩) 1 1]]) hw6 (g_frac_Of_as hw6.size (by rw [h1];rfl) hself (((z14.ext e17).updT hb18 u24).ext e30).zi (z14.le (lx_ Lp rfl)) (Zr_nat j31 o32).zi ((Zr_nat j31 o32).le (Nat.le_trans (show ln ((1:Nat):Int)≤1 by rw [ln_nat];exact (Nat.le_of_eq j31.symm)) (by decide)))) rfl (by kernel_rfl) fun xr35 v33 r35 e34 hw7=>?_)))))))))))))
 obtain⟨_,_,rfl,⟨s37,A37,n37,c37,t37,B37,m37,d37,rfl,z37,y37⟩,rfl⟩:=r35
 refine pu (v:= .agg #[.bool s37,.slice A37 n37 c37,.bool t37,.slice B37 m37 d37]) rfl (by kernel_rfl) (pu (v:= .int .i64 0) rfl (by kernel_rfl) ?_)
 have hb39:=(((hb4.ext (e7.trans (e11.trans e17))).updN u24 (by omega)).ext (e30.trans e34))
 refine so aggFrac hb39 [.bool s37,.slice A37 n37 c37,.bool t37,.slice B37 m37 d37] hw7 ge5 rfl rfl rfl rfl fun v38 hb40 u41 hw8=>(mv 1 rfl (ne_ (cw_ret (eo_ret [.agg #[.bool s37,.slice A37 n37 c37,.bool t37,.slice B37 m37 d37],I0] rfl ⟨⟨_,rfl,load_agg aggFrac hb40 [.bool s37,.slice A37 n37 c37,.bool t37,.slice B37 m37 d37] rfl (bq rfl) rfl⟩,rfl,trivial⟩ ?_))))
 exact⟨_,rfl,⟨_,_,rfl,⟨_,_,_,_,_,_,_,_,rfl,((z37.updT hb39 u41)).mono hb,((y37.updT hb39 u41)).mono hb⟩,rfl⟩,hw8⟩
set_option maxHeartbeats 4000000 in
theorem g_fRead_two {w:World}{p q:Int}{b:Nat}(hb:b≤w.heap.size) (hself:Low p q p q) (Lp:ln p≤1048576) (Lq:ln q≤1048576) (h1:¬q=1):
    Calls Tryd.prog 39 #[.string (strB ((txtZ p++ [47])++txtZ q))] w (Gv w (T2 (FR b p q) (Is (.int .i64 0)))):=by
 have hqp:=hself.pos
 have hpf:=txtZ_form p
 have hpl:=txtZ_lenF Lp
 have hql:=txtZ_lenF Lq
 have hbs:(txtZ p++ [47])++txtZ q=txtZ p++47::txtZ q:=by simp
 have hbl:(txtZ p++47::txtZ q).length=(txtZ p).length+1+(txtZ q).length:=by simp;omega
 refine sx_enter Tryd.func39 rfl (n:=42) rfl (bq rfl) (args:= [.string (strB ((txtZ p++ [47])++txtZ q))]) (cw_keep [(0,.string (strB ((txtZ p++ [47])++txtZ q)))] ⟨rfl,trivial⟩ (sr (al [F0,S0,F0,S0] (Ext.refl w) (fun _=>by kernel_rfl) rfl fun g1 v2 hb4 ge5 e3 hw1=>(mv 1 rfl (ne_ (sr (mv 1 rfl (cl (vs:= [.string (strB ((txtZ p++ [47])++txtZ q)),.string (strB ([47]))]) hw1 (g_Cut_y_ hbs hpf.1 (by omega)) rfl (by kernel_rfl) fun xr8 v6 r8 e7 hw2=>?_))))))))
 obtain⟨_,_,_,rfl,rfl,rfl,rfl⟩:=r8
 refine mv 1 rfl (pu (v:= .string (strB (txtZ p))) rfl (by kernel_rfl) (pu (v:= .string (strB (txtZ q))) rfl (by kernel_rfl) (pu (v:= .bool true) rfl (by kernel_rfl) (mv 3 rfl (ne_ (sr (mv 1 rfl (cl (vs:= [.string (strB (txtZ p))]) hw2 (rx_zRead hw2.size (fun b hb=>(hpf.1 b hb).1) (by omega) hpf.2.1 (txtN_digs.1.good txtN_digs.2) hpf.2.2) rfl (by kernel_rfl) fun xr12 v10 r12 e11 hw3=>?_))))))))
 obtain⟨_,_,rfl,⟨s14,A14,n14,c14,rfl,z14⟩,rfl⟩:=r12
 refine mv 1 rfl (pu (v:= .agg #[.bool s14,.slice A14 n14 c14]) rfl (by kernel_rfl) (pu (v:= .int .i64 0) rfl (by kernel_rfl) (alq [F0,S0] hw3 (hb4.ext (e7.trans e11)).lt (fun _=>by kernel_rfl) rfl fun g15 v16 hb18 ge19 q20 e17 hw4=>(so aggInt hb18 [.bool s14,.slice A14 n14 c14] hw4 ge19 rfl rfl rfl rfl fun v21 hb23 u24 hw5=>(mv 1 rfl (ne_ (cw_seq (sr (mv 1 rfl (wl_cmp rfl rfl rfl false (by decide) (by decide) (ne_ (cw_false rfl (cw_skip ?_)))))))))))))
 refine eo_then (sr (wl_bslice rfl rfl (by decide) (k:=1) (e:=50) [.int .u64 1] (fun _=>by kernel_rfl) fun g26 v27 nb28=>?_))
 have o29:=O1.mk_ (x:=1) (b:=w.heap.size) nb28 hw5.size
 have e30:=nb28.ext
 have hw6:=hw5.trans e30
 have o32:=own1_wd o29 (show 1≤18446744073709551615 by decide) (show 1≠0 by decide)
 have j31:=len1 (show 1≤18446744073709551615 by decide) (show 1≠0 by decide)
 refine mv 1 rfl (ne_ (cw_seq (sr (mv 1 rfl (ne_ (cw_true rfl (sr (mv 1 rfl (cl (vs:= [.string (strB (txtZ q))]) hw6 ((g_rdec_q hqp (by omega)).mono (Gv.imp (T2.imp (WR.imp hw6.size) Is.imp))) rfl (by kernel_rfl) fun xr35 v33 r35 e34 hw7=>?_)))))))))
 obtain⟨_,_,rfl,⟨A37,n37,c37,rfl,j37,o37⟩,rfl⟩:=r35
 refine mv 1 rfl (pu (v:= .slice A37 n37 c37) rfl (by kernel_rfl) (pu (v:= .int .i64 0) rfl (by kernel_rfl) (mv 2 rfl (ne_ (sr (mv 1 rfl (wl_cmp rfl rfl rfl false (by decide) (by decide) (ne_ (cw_false rfl (cw_skip (eo_then (sr (lo aggInt (hb23.ext (e30.trans e34)) [.bool s14,.slice A14 n14 c14] rfl rfl rfl ?_)))))))))))))
 refine mv 1 rfl (pu (v:= .agg #[F0,.slice A37 n37 c37]) rfl (by kernel_rfl) (cl (vs:= [.agg #[.bool s14,.slice A14 n14 c14],.agg #[F0,.slice A37 n37 c37]]) hw7 (g_frac_Of_as hw7.size (by omega) hself (((z14.ext e17).updT hb18 u24).ext (e30.trans e34)).zi (z14.le (lx_ Lp rfl)) (Zr_nat j37 o37).zi ((Zr_nat j37 o37).le (Nat.le_trans (show ln ((Int.natAbs q:Nat):Int)≤1048576 by rw [ln_nat];exact Lq) (by decide)))) rfl (by kernel_rfl) fun xr40 v38 r40 e39 hw8=>?_))
 obtain⟨_,_,rfl,⟨s42,A42,n42,c42,t42,B42,m42,d42,rfl,z42,y42⟩,rfl⟩:=r40
 refine pu (v:= .agg #[.bool s42,.slice A42 n42 c42,.bool t42,.slice B42 m42 d42]) rfl (by kernel_rfl) (pu (v:= .int .i64 0) rfl (by kernel_rfl) ?_)
 have hb44:=(((hb4.ext (e7.trans (e11.trans e17))).updN u24 (by omega)).ext (e30.trans (e34.trans e39)))
 refine so aggFrac hb44 [.bool s42,.slice A42 n42 c42,.bool t42,.slice B42 m42 d42] hw8 ge5 rfl rfl rfl rfl fun v43 hb45 u46 hw9=>(mv 1 rfl (ne_ (cw_ret (eo_ret [.agg #[.bool s42,.slice A42 n42 c42,.bool t42,.slice B42 m42 d42],I0] rfl ⟨⟨_,rfl,load_agg aggFrac hb45 [.bool s42,.slice A42 n42 c42,.bool t42,.slice B42 m42 d42] rfl (bq rfl) rfl⟩,rfl,trivial⟩ ?_))))
 exact⟨_,rfl,⟨_,_,rfl,⟨_,_,_,_,_,_,_,_,rfl,((z42.updT hb44 u46)).mono hb,((y42.updT hb44 u46)).mono hb⟩,rfl⟩,hw9⟩
theorem g_fRead {w:World}{p q:Int}{b:Nat}{t:List Nat}(ht:t=txtF p q) (hb:b≤w.heap.size) (hself:Low p q p q) (Lp:ln p≤1048576) (Lq:ln q≤1048576):Calls Tryd.prog 39 #[.string (strB t)] w (Gv w (T2 (FR b p q) (Is (.int .i64 0)))):=by
 subst ht
 unfold txtF
 by_cases h1:q=1
 ·rw [if_pos h1];exact g_fRead_one hb hself Lp Lq h1
 ·rw [if_neg h1];exact g_fRead_two hb hself Lp Lq h1
theorem g_fText_t {w:World}{p q:Int}{t:List Nat}(ht:t=txtF p q){sa:Bool}{Aa:Option Addr}{na ca:Nat}{x:Int}{sd:Bool}{Ad:Option Addr}{nd cd:Nat}{y:Int}(hx:Zi w sa Aa na ca x) (la:na≤1048576) (hy:Zi w sd Ad nd cd y) (ld:nd≤1048576) (hS:Signs w) (hlow:Low p q x y):Calls Tryd.prog 38 #[.agg #[.bool sa,.slice Aa na ca,.bool sd,.slice Ad nd cd]] w (Gv w (T2 (Is (.string (strB t))) (Is (.int .i64 0)))):=by subst ht;exact g_fText hx la hy ld hS hlow
set_option maxHeartbeats 4000000 in
theorem g_texts8_bad {w:World}{sa:Bool}{Aa:Option Addr}{na ca:Nat}{x:Int}{sd:Bool}{Ad:Option Addr}{nd cd:Nat}{y:Int}(hx:Zi w sa Aa na ca x) (la:na≤1048576) (hy:Zi w sd Ad nd cd y) (ld:nd≤1048576) (h0:y=0):
    Calls Tryd.prog 8 #[.agg #[.bool sa,.slice Aa na ca,.bool sd,.slice Ad nd cd]] w (Gv w (Is (.bool true))):=by
 have Lx:ln x≤1048576:=Nat.le_trans hx.ln la
 have Ly:ln y≤1048576:=Nat.le_trans hy.ln ld
 refine sx_enter Tryd.func8 rfl (n:=70) rfl (bq rfl) (args:= [.agg #[.bool sa,.slice Aa na ca,.bool sd,.slice Ad nd cd]]) (cw_keep [(0,.agg #[.bool sa,.slice Aa na ca,.bool sd,.slice Ad nd cd])] ⟨rfl,trivial⟩ (sr (bx [.bool sa,.slice Aa na ca,.bool sd,.slice Ad nd cd] (Ext.refl w) rfl rfl rfl fun g1 v2 hb4 ge5 e3 hw1=>(mv 1 rfl (ne_ (sr (lo aggFrac hb4 [.bool sa,.slice Aa na ca,.bool sd,.slice Ad nd cd] rfl rfl rfl (cl (vs:= [.agg #[.bool sa,.slice Aa na ca,.bool sd,.slice Ad nd cd]]) hw1 (g_fText_bad (hx.ext hw1) (lx_ la rfl) (hy.ext hw1) (lx_ ld rfl) h0) rfl (by kernel_rfl) fun xr8 v6 r8 e7 hw2=>?_))))))))
 obtain⟨_,_,rfl,rfl,rfl⟩:=r8
 refine mv 1 rfl (pu (v:= .string (strB ([]))) rfl (by kernel_rfl) (pu (v:= .int .i64 4) rfl (by kernel_rfl) (mv 2 rfl (ne_ (cw_seq (sr (lo aggFrac (hb4.ext e7) [.bool sa,.slice Aa na ca,.bool sd,.slice Ad nd cd] rfl rfl rfl (cl (vs:= [.agg #[.bool sa,.slice Aa na ca,.bool sd,.slice Ad nd cd]]) hw2 (g_law8_is (b:=false) (hy.ext hw2) (lx_ ld rfl) (by rw [decide_eq_false (fun h=>h h0)])) rfl (by kernel_rfl) fun xr12 v10 r12 e11 hw3=>?_))))))))
 obtain rfl:=r12
 refine pu (v:= .bool true) rfl (by kernel_rfl) (ne_ (cw_true rfl (sr (mv 1 rfl (wl_cmp rfl rfl rfl true (by decide) (by decide) (mv 2 rfl (wl_streq (a:= []) (b:= []) rfl rfl rfl (by decide) (by decide) true (strE_eql_t (rfl)) (by decide) (pu (v:= .bool true) rfl (by kernel_rfl) (mv 1 rfl (ne_ (cw_ret (eo_thenR (eo_ret [.bool true] rfl ⟨rfl,trivial⟩ ?_)))))))))))))
 exact⟨_,rfl,rfl,hw3⟩
set_option maxHeartbeats 4000000 in
theorem g_texts8 {w:World}{p q:Int}{sa:Bool}{Aa:Option Addr}{na ca:Nat}{x:Int}{sd:Bool}{Ad:Option Addr}{nd cd:Nat}{y:Int}(hx:Zi w sa Aa na ca x) (la:na≤1048576) (hy:Zi w sd Ad nd cd y) (ld:nd≤1048576) (hS:Signs w) (hlow:Low p q x y):
    Calls Tryd.prog 8 #[.agg #[.bool sa,.slice Aa na ca,.bool sd,.slice Ad nd cd]] w (Gv w (Is (.bool true))):=by
 have Lx:ln x≤1048576:=Nat.le_trans hx.ln la
 have Ly:ln y≤1048576:=Nat.le_trans hy.ln ld
 have Lp:ln p≤1048576:=Nat.le_trans (ln_mono hlow.np) Lx
 have Lq:ln q≤1048576:=Nat.le_trans (ln_mono hlow.nq) Ly
 have hqp:=hlow.pos
 obtain⟨sp,hsp⟩:∃t,t=txtZ p:=⟨_,rfl⟩
 obtain⟨sq,hsq⟩:∃t,t=txtZ q:=⟨_,rfl⟩
 have hspl:sp.length≤67108866:=hsp▸txtZ_lenF Lp
 have hsql:sq.length≤67108866:=hsq▸txtZ_lenF Lq
 have h0:y≠0:=fun e=>by have:=hlow.nq;subst e;simp at*;omega
 obtain⟨t,ht⟩:∃t,t=txtF p q:=⟨_,rfl⟩
 have hp256:∀b,b∈sp→b<256:=fun b hb=>((txtZ_form p).1 b (hsp▸hb)).1
 have hq256:∀b,b∈sq→b<256:=fun b hb=>((txtZ_form q).1 b (hsq▸hb)).1
 have hpq256:∀b,b∈(sp++ [47])++sq→b<256:=fun b hb=>by simp only [List.mem_append,List.mem_singleton] at hb;rcases hb with (h | h) | h;(· exact hp256 b h);(· omega);(· exact hq256 b h)
 have ht256:∀b,b∈t→b<256:=by rw [ht];unfold txtF;split;(· rw [←hsp];exact hp256);(· rw [←hsp,←hsq];exact hpq256)
 refine sx_enter Tryd.func8 rfl (n:=70) rfl (bq rfl) (args:= [.agg #[.bool sa,.slice Aa na ca,.bool sd,.slice Ad nd cd]]) (cw_keep [(0,.agg #[.bool sa,.slice Aa na ca,.bool sd,.slice Ad nd cd])] ⟨rfl,trivial⟩ (sr (bx [.bool sa,.slice Aa na ca,.bool sd,.slice Ad nd cd] (Ext.refl w) rfl rfl rfl fun g1 v2 hb4 ge5 e3 hw1=>(mv 1 rfl (ne_ (sr (lo aggFrac hb4 [.bool sa,.slice Aa na ca,.bool sd,.slice Ad nd cd] rfl rfl rfl (cl (vs:= [.agg #[.bool sa,.slice Aa na ca,.bool sd,.slice Ad nd cd]]) hw1 (g_fText_t ht (hx.ext hw1) (lx_ la rfl) (hy.ext hw1) (lx_ ld rfl) (hS.ext hw1) hlow) rfl (by kernel_rfl) fun xr8 v6 r8 e7 hw2=>?_))))))))
 obtain⟨_,_,rfl,rfl,rfl⟩:=r8
 refine mv 1 rfl (pu (v:= .string (strB t)) rfl (by kernel_rfl) (pu (v:= .int .i64 0) rfl (by kernel_rfl) (mv 2 rfl (ne_ (cw_seq (sr (lo aggFrac (hb4.ext e7) [.bool sa,.slice Aa na ca,.bool sd,.slice Ad nd cd] rfl rfl rfl (cl (vs:= [.agg #[.bool sa,.slice Aa na ca,.bool sd,.slice Ad nd cd]]) hw2 (g_law8_is (b:=true) (hy.ext hw2) (lx_ ld rfl) (by rw [decide_eq_true h0])) rfl (by kernel_rfl) fun xr12 v10 r12 e11 hw3=>?_))))))))
 obtain rfl:=r12
 refine pu (v:= .bool false) rfl (by kernel_rfl) (ne_ (cw_false rfl (cw_skip (eo_then (sr (pf g1 0 rfl (by kernel_rfl) (lo aggInt (hb4.ext (e7.trans e11)) [.bool sa,.slice Aa na ca] rfl rfl rfl (pf g1 2 rfl (by kernel_rfl) (lo aggInt (hb4.ext (e7.trans e11)) [.bool sd,.slice Ad nd cd] rfl rfl rfl (cl (vs:= [.agg #[.bool sa,.slice Aa na ca],.agg #[.bool sd,.slice Ad nd cd]]) hw3 (g_frac_Of_at hw3.size hlow (hx.ext hw3) (lx_ la rfl) (hy.ext hw3) (lx_ ld rfl)) rfl (by kernel_rfl) fun xr15 v13 r15 e14 hw4=>?_))))))))))
 obtain⟨_,_,rfl,⟨s17,A17,n17,c17,t17,B17,m17,d17,rfl,z17,y17⟩,rfl⟩:=r15
 refine mv 1 rfl (pu (v:= .agg #[.bool s17,.slice A17 n17 c17,.bool t17,.slice B17 m17 d17]) rfl (by kernel_rfl) (pu (v:= .int .i64 0) rfl (by kernel_rfl) (alq [F0,S0,F0,S0] hw4 (hb4.ext (e7.trans (e11.trans e14))).lt (fun _=>by kernel_rfl) rfl fun g18 v19 hb21 ge22 q23 e20 hw5=>(so aggFrac hb21 [.bool s17,.slice A17 n17 c17,.bool t17,.slice B17 m17 d17] hw5 ge22 rfl rfl rfl rfl fun v24 hb26 u27 hw6=>(mv 1 rfl (ne_ (sr (mv 1 rfl (cl (vs:= [.string (strB t)]) hw6 (g_fRead ht hw6.size (low_self hlow) Lp Lq) rfl (by kernel_rfl) fun xr31 v29 r31 e30 hw7=>?_)))))))))
 obtain⟨_,_,rfl,⟨s33,A33,n33,c33,t33,B33,m33,d33,rfl,z33,y33⟩,rfl⟩:=r31
 refine mv 1 rfl (pu (v:= .agg #[.bool s33,.slice A33 n33 c33,.bool t33,.slice B33 m33 d33]) rfl (by kernel_rfl) (pu (v:= .int .i64 0) rfl (by kernel_rfl) (alq [F0,S0,F0,S0] hw7 (hb26.ext e30).lt (fun _=>by kernel_rfl) rfl fun g34 v35 hb37 ge38 q39 e36 hw8=>(so aggFrac hb37 [.bool s33,.slice A33 n33 c33,.bool t33,.slice B33 m33 d33] hw8 ge38 rfl rfl rfl rfl fun v40 hb42 u43 hw9=>(mv 1 rfl (ne_ (cw_seq (sr (mv 1 rfl (wl_cmp rfl rfl rfl false (by decide) (by decide) (mv 2 rfl (wl_cmp rfl rfl rfl false (by decide) (by decide) (pu (v:= .bool false) rfl (by kernel_rfl) ?_)))))))))))))
 refine mv 2 rfl (wl_cmp rfl rfl rfl false (by decide) (by decide) (pu (v:= .bool false) rfl (by kernel_rfl) (mv 1 rfl (lo aggFrac hb42 [.bool s33,.slice A33 n33 c33,.bool t33,.slice B33 m33 d33] rfl rfl rfl (lo aggFrac ((hb26.ext (e30.trans e36)).updN u43 (by omega)) [.bool s17,.slice A17 n17 c17,.bool t17,.slice B17 m17 d17] rfl rfl rfl (cl (vs:= [.agg #[.bool s33,.slice A33 n33 c33,.bool t33,.slice B33 m33 d33],.agg #[.bool s17,.slice A17 n17 c17,.bool t17,.slice B17 m17 d17]]) hw9 (g_law8_like ((z33.ext e36).updT hb37 u43) (z33.le (lx_ Lp rfl)) ((y33.ext e36).updT hb37 u43) (y33.le (lx_ Lq rfl)) ((((z17.ext e20).updT hb21 u27).ext (e30.trans e36)).updT hb37 u43) (z17.le (lx_ Lp rfl)) ((((y17.ext e20).updT hb21 u27).ext (e30.trans e36)).updT hb37 u43) (y17.le (lx_ Lq rfl)) rfl rfl) rfl (by kernel_rfl) fun xr47 v45 r47 e46 hw10=>?_))))))
 obtain rfl:=r47
 refine pu (v:= .bool false) rfl (by kernel_rfl) (pu (v:= .bool false) rfl (by kernel_rfl) (ne_ (cw_false rfl (cw_skip (eo_then (sr (pf g18 0 rfl (by kernel_rfl) (lo aggInt (((hb26.ext (e30.trans e36)).updN u43 (by omega)).ext e46) [.bool s17,.slice A17 n17 c17] rfl rfl rfl (cl (vs:= [.agg #[.bool s17,.slice A17 n17 c17]]) hw10 (g_ztxt_f hsp (((((z17.ext e20).updT hb21 u27).ext (e30.trans e36)).updT hb37 u43).ext e46).zi (z17.le (lx_ Lp rfl)) (hS.ext hw10)) rfl (by kernel_rfl) fun xr50 v48 r50 e49 hw11=>?_)))))))))
 obtain rfl:=r50
 refine mv 1 rfl (ne_ (cw_seq (cw_seq ?_)))
 by_cases h1:q=1
 · 
  refine cw_draw mix 5 [] [Is (.pointer (some ⟨g18,2,none⟩)),Is (.agg #[.bool t17,.slice B17 m17 d17]),ZR w.heap.size (1),Is (.int .i64 (scmp q 1)),Is (.bool false)] [[],[0],[],[1,2],[3]] [[],[0],[],[0,1,2],[0,1,2,3]] rfl
   (obs_cons rfl rfl (hob rfl rfl ?_) (obs_cons rfl rfl (hob rfl rfl ?_) (obs_cons rfl rfl (hob rfl rfl ?_) (obs_cons rfl rfl (hob rfl rfl ?_) (obs_cons rfl rfl (hob rfl rfl ?_) obs_nil))))) ?_
  · 
   exact fun _ _=>deps_nil (pf g18 2 rfl (by kernel_rfl) (pi_done rfl (Ext.refl _) rfl))
  · 
   exact fun _ e55=>dk rfl rfl (deps_nil (lo aggInt (((hb26.ext (e30.trans e36)).updN u43 (by omega)).ext (e46.trans (e49.trans e55))) [.bool t17,.slice B17 m17 d17] rfl rfl rfl (pi_done rfl (Ext.refl _) rfl)))
  · 
   intro v61 e62
   have hw12:=hw11.trans e62
   refine deps_nil (cl (vs:= [.int .i64 1]) hw12 (g_zint_Of hw12.size (by decide) (by decide)) rfl (by kernel_rfl) fun xr65 v63 r65 e64 hw13=>?_)
   obtain⟨s66,A66,n66,c66,rfl,z66⟩:=r65
   exact pi_done rfl e64 ⟨_,_,_,_,rfl,z66⟩
  · 
   intro v67 e68
   have hw12:=hw11.trans e68
   refine dk rfl rfl (deps_cons rfl rfl fun x74 y75 h76 e77 f78=>?_)
   obtain⟨s79,A79,n79,c79,rfl,z79⟩:=h76
   have z79:=z79.ext f78
   refine deps_nil (cl (vs:= [.agg #[.bool t17,.slice B17 m17 d17],.agg #[.bool s79,.slice A79 n79 c79]]) hw12 (g_zint_Cmp (((((y17.ext e20).updT hb21 u27).ext (e30.trans e36)).updT hb37 u43).ext (e46.trans (e49.trans e68))).zi (y17.le (lx_ Lq rfl)) z79.zi (z79.le (Nat.le_trans (show ln (1)≤1 by decide+kernel) (by decide)))) rfl (by kernel_rfl) fun xr82 v80 r82 e81 hw13=>?_)
   obtain rfl:=r82
   exact pi_done rfl e81 rfl
  · 
   exact fun _ _=>dk rfl rfl (deps_nil (wl_cmp rfl rfl rfl false (ne_f (scmp_zero.2 h1)) (by decide) (pi_done rfl (Ext.refl _) rfl)))
  · 
   intro v90 e91
   have hw12:=hw11.trans e91
   refine dk rfl rfl (dk rfl rfl (deps_cons rfl rfl fun x102 y103 h104 e105 f106=>?_))
   obtain⟨s107,A107,n107,c107,rfl,z107⟩:=h104
   have z107:=z107.ext f106
   refine dk rfl rfl (dk rfl rfl (deps_nil (wl_nil (eo_np (eo_then (cw_false rfl (cw_skip (eo_then (sr (mv 2 rfl (wl_streq (a:=t) (b:=sp) rfl rfl rfl ht256 hp256 true (strE_eql_t (by rw [ht];unfold txtF;rw [if_pos h1,←hsp])) (by decide) (mv 1 rfl (wl_nil ?_)))))))))))))
   refine eo_then (cw_ret (eo_ret [.bool true] rfl ⟨rfl,trivial⟩ ?_))
   exact⟨_,rfl,rfl,hw12⟩
 · 
  refine cw_draw mix 5 [] [Is (.pointer (some ⟨g18,2,none⟩)),Is (.agg #[.bool t17,.slice B17 m17 d17]),ZR w.heap.size (1),Is (.int .i64 (scmp q 1)),Is (.bool true)] [[],[0],[],[1,2],[3]] [[],[0],[],[0,1,2],[0,1,2,3]] rfl
   (obs_cons rfl rfl (hob rfl rfl ?_) (obs_cons rfl rfl (hob rfl rfl ?_) (obs_cons rfl rfl (hob rfl rfl ?_) (obs_cons rfl rfl (hob rfl rfl ?_) (obs_cons rfl rfl (hob rfl rfl ?_) obs_nil))))) ?_
  · 
   exact fun _ _=>deps_nil (pf g18 2 rfl (by kernel_rfl) (pi_done rfl (Ext.refl _) rfl))
  · 
   exact fun _ e122=>dk rfl rfl (deps_nil (lo aggInt (((hb26.ext (e30.trans e36)).updN u43 (by omega)).ext (e46.trans (e49.trans e122))) [.bool t17,.slice B17 m17 d17] rfl rfl rfl (pi_done rfl (Ext.refl _) rfl)))
  · 
   intro v128 e129
   have hw12:=hw11.trans e129
   refine deps_nil (cl (vs:= [.int .i64 1]) hw12 (g_zint_Of hw12.size (by decide) (by decide)) rfl (by kernel_rfl) fun xr132 v130 r132 e131 hw13=>?_)
   obtain⟨s133,A133,n133,c133,rfl,z133⟩:=r132
   exact pi_done rfl e131 ⟨_,_,_,_,rfl,z133⟩
  · 
   intro v134 e135
   have hw12:=hw11.trans e135
   refine dk rfl rfl (deps_cons rfl rfl fun x141 y142 h143 e144 f145=>?_)
   obtain⟨s146,A146,n146,c146,rfl,z146⟩:=h143
   have z146:=z146.ext f145
   refine deps_nil (cl (vs:= [.agg #[.bool t17,.slice B17 m17 d17],.agg #[.bool s146,.slice A146 n146 c146]]) hw12 (g_zint_Cmp (((((y17.ext e20).updT hb21 u27).ext (e30.trans e36)).updT hb37 u43).ext (e46.trans (e49.trans e135))).zi (y17.le (lx_ Lq rfl)) z146.zi (z146.le (Nat.le_trans (show ln (1)≤1 by decide+kernel) (by decide)))) rfl (by kernel_rfl) fun xr149 v147 r149 e148 hw13=>?_)
   obtain rfl:=r149
   exact pi_done rfl e148 rfl
  · 
   exact fun _ _=>dk rfl rfl (deps_nil (wl_cmp rfl rfl rfl true (ne_t (fun e=>h1 (scmp_zero.1 e))) (by decide) (pi_done rfl (Ext.refl _) rfl)))
  · 
   intro v157 e158
   have hw12:=hw11.trans e158
   refine dk rfl rfl (dk rfl rfl (deps_cons rfl rfl fun x169 y170 h171 e172 f173=>?_))
   obtain⟨s174,A174,n174,c174,rfl,z174⟩:=h171
   have z174:=z174.ext f173
   refine dk rfl rfl (dk rfl rfl (deps_nil (wl_nil (eo_np (eo_then (cw_true rfl (cw_region (mv 1 rfl (wl_op rfl rfl rfl (r:= .string (strB (sp++([47])))) rfl (fun w=>str_add (a:=sp) (b:= [47]) (by simp only [List.length_append,List.length_cons,List.length_nil];omega)) (by decide) (pf g18 2 rfl (by kernel_rfl) (lo aggInt (((hb26.ext (e30.trans e36)).updN u43 (by omega)).ext (e46.trans (e49.trans e158))) [.bool t17,.slice B17 m17 d17] rfl rfl rfl (cl (vs:= [.agg #[.bool t17,.slice B17 m17 d17]]) hw12 (g_ztxt_f hsq (((((y17.ext e20).updT hb21 u27).ext (e30.trans e36)).updT hb37 u43).ext (e46.trans (e49.trans e158))).zi (y17.le (lx_ Lq rfl)) (hS.ext hw12)) rfl (by kernel_rfl) fun xr187 v185 r187 e186 hw13=>?_))))))))))))
   obtain rfl:=r187
   refine wl_op rfl rfl rfl (r:= .string (strB ((sp++([47]))++sq))) rfl (fun w=>str_add (a:=sp++([47])) (b:=sq) (by simp only [List.length_append,List.length_cons,List.length_nil];omega)) (by decide) (mv 1 rfl (ne_ (sr (mv 2 rfl (wl_streq (a:=t) (b:=(sp++([47]))++sq) rfl rfl rfl ht256 hpq256 true (strE_eql_t (by rw [ht];unfold txtF;rw [if_neg h1,←hsp,←hsq])) (by decide) (mv 1 rfl (ne_ (cw_ret (eo_ret [.bool true] rfl ⟨rfl,trivial⟩ ?_)))))))))
   exact⟨_,rfl,rfl,hw13⟩
def VObs (P:Program) (n:Nat) (ol:List Oper) (vs:List Value) (w0:World) (dss:List (List Nat)) (l:Fr):List Nat→Prop
 | []=>True
 | i::r=>(match ol[i]? with
  | some o=>∀w,Ext w0 w→RunD P n (dfr ol vs l (rch dss i)) o w (.value ((vs[i]?).getD undef)) w
  | none=>True)∧VObs P n ol vs w0 dss l r
def TwB (ol:List Oper) (T:TypeId) (zs us:List Value) (j s:Nat) (w0:World) (listed:Array Bool) (a:Act) (w:World) (g:Nat):Prop:=
 listed.getD j false=true→slotv a (dstOf ol j)= .pointer (some ⟨g,0,none⟩)∧w0.heap.size≤g∧Bk w g T (if listed.getD s false=true then us else zs)
def TwI (n:Nat) (ol:List Oper) (l:Fr) (vs:List Value) (T:TypeId) (zs us1 us2:List Value) (j1 s1 j2 s2:Nat) (w0:World) (listed:Array Bool) (a:Act) (w:World):Prop:=
 Rp n l a∧Ext w0 w∧(∀i,i<ol.length→i≠j1→i≠j2→listed.getD i false=true→∀d,dstOf ol i=some d→a.tmps.getD d undef=(vs[i]?).getD undef)∧
 ∃g1 g2,TwB ol T zs us1 j1 s1 w0 listed a w g1∧TwB ol T zs us2 j2 s2 w0 listed a w g2∧(listed.getD j1 false=true→listed.getD j2 false=true→g1≠g2)
def Fills (P:Program) (n:Nat) (ol:List Oper) (vs:List Value) (w0:World) (l:Fr) (T:TypeId) (zs us:List Value) (j s k:Nat):Prop:=
 match ol[s]? with
 | some o=>∀w g,Ext w0 w→Bk w g T zs→∃w',RunD P n (putl (dstOf ol j) (.pointer (some ⟨g,0,none⟩)) (putl (dstOf ol k) ((vs[k]?).getD undef) l)) o w .skip w'∧Bk w' g T us∧Upd g w w'
 | none=>False
def Makes (P:Program) (n:Nat) (ol:List Oper) (l:Fr) (T:TypeId) (zs:List Value) (j:Nat):Prop:=
 match ol[j]? with
 | some o=>∀w,RunD P n l o w (.value (.pointer (some ⟨w.heap.size,0,none⟩))) (w.alloc (.cells zs.toArray T))
 | none=>False
def twOk (N:Nat) (dss rl:List (List Nat)) (j1 s1 k1 j2 s2 k2:Nat) (is:List Nat):Bool:=
 (List.range N).all (fun i=>i==j1||i==j2||i==s1||i==s2||is.contains i)&&(List.range N).all (fun i=> !(rch dss i).contains j1&& !(rch dss i).contains j2)&&decide (j1<N)&&decide (j2<N)&&decide (k1<N)&&decide (k2<N)&&decide (s1<N)&&decide (s2<N)&&
 (rch rl s1).contains j1&&(rch rl s1).contains k1&&(rch rl s2).contains j2&&(rch rl s2).contains k2&&decide (j1≠j2)&&decide (s1≠s2)&&decide (j1≠s1)&&decide (j1≠s2)&&decide (j2≠s1)&&decide (j2≠s2)&&decide (k1≠j1)&&decide (k1≠j2)&&decide (k2≠j1)&&decide (k2≠j2)
section
variable {P:Program}{Q:Exit→Act→World→Prop}{n:Nat}{ol:List Oper}{vs:List Value}{w0 w:World}{dss rl:List (List Nat)}{l:Fr}{ps:List (Nat×Nat)}{T:TypeId}{zs us1 us2:List Value}{j1 j2 s1 s2 k1 k2:Nat}{st:List Nat}{listed:Array Bool}{a:Act}
theorem TwI.swap (h:TwI n ol l vs T zs us1 us2 j1 s1 j2 s2 w0 listed a w):TwI n ol l vs T zs us2 us1 j2 s2 j1 s1 w0 listed a w:=by
 obtain⟨h1,h2,h3,g1,g2,h4,h5,h6⟩:=h
 exact⟨h1,h2,fun i hi h h'=>h3 i hi h' h,g2,g1,h5,h4,fun h h' e=>h6 h' h e.symm⟩
theorem slot_other {i j d:Nat}{o:Oper}(hk:DetOk n ol st l dss rl ps) (ho:ol[i]?=some o) (hd:o.dst=some d) (hij:i≠j) (v:Value):slotv (a.put (some d) v) (dstOf ol j)=slotv a (dstOf ol j):=by
 obtain⟨_,hdn,hfar,hoth⟩:=hk.val i o ho d hd
 refine slotv_far ?_ v
 unfold dstOf
 cases hoj:ol[j]? with
 | none=>intro h;cases h
 | some oj=>exact hoth j oj hoj (Ne.symm hij)
theorem TwB.far {i j s d g:Nat}{us:List Value}{o:Oper}(hk:DetOk n ol st l dss rl ps) (h:TwB ol T zs us j s w0 listed a w g) (ho:ol[i]?=some o) (hd:o.dst=some d) (hij:i≠j) (his:i≠s) (v:Value){w':World}(e:Ext w w'):TwB ol T zs us j s w0 (listed.setIfInBounds i true) (a.put (some d) v) w' g:=by
 intro hl
 rw [Go.getD_set_ne false hij] at hl
 obtain⟨h1,h2,h3⟩:=h hl
 refine⟨(slot_other hk ho hd hij v).trans h1,h2,?_⟩
 rw [Go.getD_set_ne false his]
 exact h3.ext e
theorem vals_far {i d:Nat}{o:Oper}(hk:DetOk n ol st l dss rl ps) (h:∀i,i<ol.length→i≠j1→i≠j2→listed.getD i false=true→∀d,dstOf ol i=some d→a.tmps.getD d undef=(vs[i]?).getD undef) (ho:ol[i]?=some o) (hd:o.dst=some d) (hs:a.tmps.size=n){v:Value}(hv:i≠j1→i≠j2→v=(vs[i]?).getD undef):
  ∀k,k<ol.length→k≠j1→k≠j2→(listed.setIfInBounds i true).getD k false=true→∀e,dstOf ol k=some e→(a.put (some d) v).tmps.getD e undef=(vs[k]?).getD undef:=by
 intro k hk' h1 h2 hl e he
 obtain⟨_,hdn,hfar,hoth⟩:=hk.val i o ho d hd
 by_cases hik:i=k
 ·subst hik
  have e1:dstOf ol i=some d:=by unfold dstOf;rw [ho];exact hd
  rw [e1] at he
  cases he
  exact (slotv_put hs hdn v).trans (hv h1 h2)
 ·rw [Go.getD_set_ne false hik] at hl
  have:=slot_other (a:=a) hk ho hd hik v
  rw [he] at this
  exact this.trans (h k hk' h1 h2 hl e he)
theorem TwI.val {i d:Nat}{o:Oper}(hk:DetOk n ol st l dss rl ps) (h:TwI n ol l vs T zs us1 us2 j1 s1 j2 s2 w0 listed a w) (ho:ol[i]?=some o) (hd:o.dst=some d) (h1:i≠j1) (h2:i≠j2) (h3:i≠s1) (h4:i≠s2):
  TwI n ol l vs T zs us1 us2 j1 s1 j2 s2 w0 (listed.setIfInBounds i true) (a.put (some d) ((vs[i]?).getD undef)) w:=by
 obtain⟨hr,hx,hv,g1,g2,b1,b2,hne⟩:=h
 refine⟨hr.put_far (hk.val i o ho d hd).2.2.1 _,hx,vals_far hk hv ho hd hr.size (fun _ _=>rfl),g1,g2,b1.far hk ho hd h1 h3 _ (Ext.refl w),b2.far hk ho hd h2 h4 _ (Ext.refl w),fun e1 e2=>?_⟩
 rw [Go.getD_set_ne false h1] at e1
 rw [Go.getD_set_ne false h2] at e2
 exact hne e1 e2
theorem TwI.new {d:Nat}{o:Oper}(hk:DetOk n ol st l dss rl ps) (h:TwI n ol l vs T zs us1 us2 j1 s1 j2 s2 w0 listed a w) (ho:ol[j1]?=some o) (hd:o.dst=some d) (hs1:listed.getD s1 false=false) (h2:j1≠j2) (h3:j1≠s1) (h4:j1≠s2):
  TwI n ol l vs T zs us1 us2 j1 s1 j2 s2 w0 (listed.setIfInBounds j1 true) (a.put (some d) (.pointer (some ⟨w.heap.size,0,none⟩))) (w.alloc (.cells zs.toArray T)):=by
 obtain⟨hr,hx,hv,g1,g2,b1,b2,hne⟩:=h
 refine⟨hr.put_far (hk.val j1 o ho d hd).2.2.1 _,hx.alloc _,vals_far hk hv ho hd hr.size (fun h _=>absurd rfl h),w.heap.size,g2,fun _=>⟨?_,hx.size,?_⟩,b2.far hk ho hd h2 h4 _ ((Ext.refl w).alloc _),fun _ e2=>?_⟩
 ·have e1:dstOf ol j1=some d:=by unfold dstOf;rw [ho];exact hd
  rw [e1]
  exact slotv_put hr.size (hk.val j1 o ho d hd).2.1 _
 ·rw [Go.getD_set_ne false h3,hs1]
  exact Bk.new w T zs
 ·rw [Go.getD_set_ne false h2] at e2
  have:=(b2 e2).2.2.lt
  omega
theorem TwI.fill {g:Nat}{w':World}(h:TwI n ol l vs T zs us1 us2 j1 s1 j2 s2 w0 listed a w) (hj:listed.getD j1 false=true) (hg:slotv a (dstOf ol j1)= .pointer (some ⟨g,0,none⟩)) (hb:Bk w' g T us1) (hu:Upd g w w') (hN:s1<listed.size) (h1:s1≠j1) (h2:s1≠j2) (h3:s1≠s2) (hd:dstOf ol s1=none):
  TwI n ol l vs T zs us1 us2 j1 s1 j2 s2 w0 (listed.setIfInBounds s1 true) a w':=by
 obtain⟨hr,hx,hv,g1,g2,b1,b2,hne⟩:=h
 obtain⟨c1,c2,c3⟩:=b1 hj
 have hgg:g=g1:=by
  rw [hg] at c1
  injection c1 with c1
  injection c1 with c1
  injection c1
 subst hgg
 refine⟨hr,hu.ext hx c2,fun i hi e1 e2 hl d hd'=>?_,g,g2,fun _=>⟨c1,c2,?_⟩,fun e2=>?_,fun e1 e2=>?_⟩
 ·by_cases his:s1=i
  ·subst his;rw [hd] at hd';cases hd'
  ·rw [Go.getD_set_ne false his] at hl
   exact hv i hi e1 e2 hl d hd'
 ·rw [if_pos (by simp [hN])];exact hb
 ·rw [Go.getD_set_ne false h2] at e2
  obtain⟨d1,d2,d3⟩:=b2 e2
  rw [Go.getD_set_ne false h3]
  exact⟨d1,d2,d3.upd hu (fun e=>hne hj e2 e.symm)⟩
 ·rw [Go.getD_set_ne false h2] at e2
  exact hne hj e2
theorem vobs_get {is:List Nat}(h:VObs P n ol vs w0 dss l is):∀i∈is,∀o,ol[i]?=some o→∀w,Ext w0 w→RunD P n (dfr ol vs l (rch dss i)) o w (.value ((vs[i]?).getD undef)) w:=by
 induction is with
 | nil=>intro i hi;cases hi
 | cons k r ih=>
  intro i hi o ho
  rcases List.mem_cons.1 hi with e | e
  ·subst e
   have:=h.1
   rw [ho] at this
   exact this
  ·exact ih h.2 i e o ho
def TwEnd (Q:Exit→Act→World→Prop) (n:Nat) (ol:List Oper) (vs:List Value) (l:Fr) (w0:World) (T:TypeId) (us1 us2:List Value) (j1 j2:Nat) (is:List Nat):Prop:=
 ∀g1 g2 w,Ext w0 w→g1≠g2→w0.heap.size≤g1→w0.heap.size≤g2→Bk w g1 T us1→Bk w g2 T us2→eo Q .normal n (putl (dstOf ol j1) (.pointer (some ⟨g1,0,none⟩)) (putl (dstOf ol j2) (.pointer (some ⟨g2,0,none⟩)) (dfr ol vs l is))) w
theorem twin_any {is:List Nat}(hk:DetOk n ol [s1,s2] l dss rl ps) (ht:twOk ol.length dss rl j1 s1 k1 j2 s2 k2 is=true) (hj1:j1 ∉ is) (hj2:j2 ∉ is) (his:∀i∈is,i<ol.length) (hv:VObs P n ol vs w0 dss l is) (hm1:Makes P n ol l T zs j1) (hm2:Makes P n ol l T zs j2)
  (hf1:Fills P n ol vs w0 l T zs us1 j1 s1 k1) (hf2:Fills P n ol vs w0 l T zs us2 j2 s2 k2) (hfin:TwEnd Q n ol vs l w0 T us1 us2 j1 j2 is):
  ∀(fuel:Nat) (listed:Array Bool) (a:Act) (w:World),unl ol.length listed≤fuel→listed.size=ol.length→Closed ol listed→TwI n ol l vs T zs us1 us2 j1 s1 j2 s2 w0 listed a w→wpAny P .any ol.toArray Q fuel listed a w:=by
 simp only [twOk,Bool.and_eq_true,decide_eq_true_eq,List.contains_iff_mem,ne_eq] at ht
 obtain⟨⟨⟨⟨⟨⟨⟨⟨⟨⟨⟨⟨⟨⟨⟨⟨⟨⟨⟨⟨⟨hall0,hnd⟩,l1⟩,l2⟩,l3⟩,l4⟩,l5⟩,l6⟩,r1⟩,r2⟩,r3⟩,r4⟩,n1⟩,n2⟩,n3⟩,n4⟩,n5⟩,n6⟩,n7⟩,n8⟩,n9⟩,n10⟩:=ht
 rw [List.all_eq_true] at hall0 hnd
 have fin:∀(listed:Array Bool) (a:Act) (w:World),(∀i,i<ol.length→listed.getD i false=true)→TwI n ol l vs T zs us1 us2 j1 s1 j2 s2 w0 listed a w→Q .normal a w:=by
  intro listed a w hall h
  obtain⟨hr,hx,hval,g1,g2,b1,b2,hne⟩:=h
  obtain⟨c1,c2,c3⟩:=b1 (hall _ l1)
  obtain⟨d1,d2,d3⟩:=b2 (hall _ l2)
  rw [if_pos (hall _ l5)] at c3
  rw [if_pos (hall _ l6)] at d3
  have hr1:Rp n (dfr ol vs l is) a:=hr.dfr is fun j hj d hd=>hval j (his j hj) (fun e=>hj1 (e▸hj)) (fun e=>hj2 (e▸hj)) (hall j (his j hj)) d hd
  refine hfin g1 g2 w hx (hne (hall _ l1) (hall _ l2)) c2 d2 c3 d3 a ?_
  have key:∀{l':Fr}{j:Nat}{v:Value},Rp n l' a→slotv a (dstOf ol j)=v→Rp n (putl (dstOf ol j) v l') a:=by
   intro l' j v h1 h2
   cases hd:dstOf ol j with
   | none=>exact h1
   | some d=>rw [hd] at h2;exact h1.cons h2
  exact key (key hr1 d1) c1
 intro fuel
 induction fuel with
 | zero=>
  intro listed a w hf hs hcl hI
  have hall:∀i,i<ol.length→listed.getD i false=true:=by
   intro i hi
   cases h:listed.getD i false with
   | true=>rfl
   | false=>have:=unl_set hi hs h;omega
  refine⟨?_,fin listed a w hall hI⟩
  refine List.eq_nil_iff_forall_not_mem.2 fun j hj=>?_
  obtain⟨h1,o,hoj,_⟩:=ready_iff.1 hj
  have hjl:j<ol.length:=(List.getElem?_eq_some_iff.1 hoj).1
  rw [getD_tf (by omega),hall j hjl] at h1
  cases h1
 | succ fuel ih=>
  intro listed a w hf hs hcl hI
  refine⟨fun h0=>?_,fun i hir=>?_⟩
  ·refine fin listed a w (fun i hi=>?_) hI
   have key:∀k,k≤ol.length→∀i,i<k→listed.getD i false=true:=by
    intro k
    induction k with
    | zero=>intro _ i hi;omega
    | succ k ihk=>
     intro hk' i hi
     have ih':=ihk (by omega)
     rcases Nat.lt_or_ge i k with h | h
     ·exact ih' i h
     ·have e:i=k:=by omega
      subst e
      cases hb:listed.getD i false with
      | true=>rfl
      | false=>
       have hrdy:i∈Region.ready .any ol.toArray listed:=ready_iff.2 ⟨by rw [getD_tf (by omega)];exact hb,_,List.getElem?_eq_getElem (by omega),fun e he hbb=>ih' _ (hk.back i _ (List.getElem?_eq_getElem (by omega)) e he hbb)⟩
       rw [h0] at hrdy;cases hrdy
   exact key ol.length (Nat.le_refl _) i hi
  ·obtain⟨hun,o,hoi,hall⟩:=ready_iff.1 hir
   have hil:i<ol.length:=(List.getElem?_eq_some_iff.1 hoi).1
   have hun':listed.getD i false=false:=by rw [←getD_tf (by omega)];exact hun
   have hrch:=closed_reach hk hcl i o hoi hall
   have hwant:Region.wanted o (yielded ol.toArray a.tmps)=true:=by simp [Region.wanted,hk.guard i o hoi]
   have hu:=unl_set hil hs hun'
   have notyet:∀s,s<ol.length→i∈rch rl s→listed.getD s false=false:=by
    intro s hsl hm
    cases hb:listed.getD s false with
    | false=>rfl
    | true=>
     have:=closed_reach hk hcl s _ (List.getElem?_eq_getElem hsl) (fun e he hbb=>hcl s _ (List.getElem?_eq_getElem hsl) hb e he hbb) i hm
     rw [hun'] at this;cases this
   have hr:=hI.1
   have hx:=hI.2.1
   have hval:=hI.2.2.1
   unfold wpOp
   rw [arr_get,hoi]
   simp only
   rw [if_pos hwant]
   refine Or.inl ?_
   unfold Oper.wp
   have hdst:i≠s1→i≠s2→∃d,o.dst=some d:=fun e1 e2=>by
    cases hd:o.dst with
    | none=>
     have:=hk.sto i o hoi hd
     simp at this
     rcases this with h | h
     ·exact absurd h e1
     ·exact absurd h e2
    | some d=>exact⟨d,rfl⟩
   have hnone:i∈ [s1,s2]→o.dst=none:=fun hm=>by
    cases hd:o.dst with
    | none=>rfl
    | some d=>exact absurd hm (hk.val i o hoi d hd).1
   have putRp:∀{l':Fr}{k:Nat}{v:Value},Rp n l' a→(∀d,dstOf ol k=some d→a.tmps.getD d undef=v)→Rp n (putl (dstOf ol k) v l') a:=by
    intro l' k v h1 h2
    cases hd:dstOf ol k with
    | none=>exact h1
    | some d=>exact h1.cons (h2 d hd)
   by_cases e1:i=j1
   ·subst e1
    obtain⟨d,hd⟩:=hdst n3 n4
    unfold Makes at hm1
    rw [hoi] at hm1
    rw [hm1 w a hr]
    simp only [Oper.upon,hd]
    exact ih _ _ _ (by omega) (by simpa using hs) (hcl.set hoi hall) (hI.new hk hoi hd (notyet s1 l5 r1) n1 n3 n4)
   by_cases e2:i=j2
   ·subst e2
    obtain⟨d,hd⟩:=hdst n5 n6
    unfold Makes at hm2
    rw [hoi] at hm2
    rw [hm2 w a hr]
    simp only [Oper.upon,hd]
    exact ih _ _ _ (by omega) (by simpa using hs) (hcl.set hoi hall) ((hI.swap.new hk hoi hd (notyet s2 l6 r3) (Ne.symm n1) n6 n5).swap)
   by_cases e3:i=s1
   ·subst e3
    have hd:=hnone (by simp)
    unfold Fills at hf1
    rw [hoi] at hf1
    obtain⟨g1,g2,b1,b2,hne⟩:=hI.2.2.2
    obtain⟨c1,c2,c3⟩:=b1 (hrch _ r1)
    rw [if_neg (by rw [hun'];exact Bool.false_ne_true)] at c3
    obtain⟨w',h1,h2,h3⟩:=hf1 w _ hx c3
    have hk1:Rp n (putl (dstOf ol k1) ((vs[k1]?).getD undef) l) a:=putRp hr fun d hdd=>hval k1 l3 n7 n8 (hrch _ r2) d hdd
    rw [h1 a (putRp hk1 fun d hdd=>by rw [hdd] at c1;exact c1)]
    simp only [Oper.upon,hd]
    exact ih _ _ _ (by omega) (by simpa using hs) (hcl.set hoi hall) (hI.fill (hrch _ r1) c1 h2 h3 (by omega) (Ne.symm n3) (Ne.symm n5) n2 (by unfold dstOf;rw [hoi];exact hd))
   by_cases e4:i=s2
   ·subst e4
    have hd:=hnone (by simp)
    unfold Fills at hf2
    rw [hoi] at hf2
    obtain⟨g1,g2,b1,b2,hne⟩:=hI.2.2.2
    obtain⟨c1,c2,c3⟩:=b2 (hrch _ r3)
    rw [if_neg (by rw [hun'];exact Bool.false_ne_true)] at c3
    obtain⟨w',h1,h2,h3⟩:=hf2 w _ hx c3
    have hk1:Rp n (putl (dstOf ol k2) ((vs[k2]?).getD undef) l) a:=putRp hr fun d hdd=>hval k2 l4 n9 n10 (hrch _ r4) d hdd
    rw [h1 a (putRp hk1 fun d hdd=>by rw [hdd] at c1;exact c1)]
    simp only [Oper.upon,hd]
    exact ih _ _ _ (by omega) (by simpa using hs) (hcl.set hoi hall) ((hI.swap.fill (hrch _ r3) c1 h2 h3 (by omega) (Ne.symm n6) (Ne.symm n4) (Ne.symm n2) (by unfold dstOf;rw [hoi];exact hd)).swap)
   have hmem:i∈is:=by
    have:=hall0 i (List.mem_range.2 hil)
    simp only [Bool.or_eq_true,beq_iff_eq,List.contains_iff_mem] at this
    rcases this with (((h | h) | h) | h) | h
    ·exact absurd h e1
    ·exact absurd h e2
    ·exact absurd h e3
    ·exact absurd h e4
    ·exact h
   obtain⟨d,hd⟩:=hdst e3 e4
   have hnd':=hnd i (List.mem_range.2 hil)
   simp only [Bool.and_eq_true,Bool.not_eq_true'] at hnd'
   have hacc:Rp n (dfr ol vs l (rch dss i)) a:=hr.dfr _ fun j hj d hd=>by
    have h1:=hk.deps i o hoi j hj
    have h2:=(hk.reach i o hoi j h1).1
    refine hval j (by omega) (fun e=>?_) (fun e=>?_) (hrch j h1) d hd
    ·subst e;rw [List.contains_iff_mem.2 hj] at hnd';exact absurd hnd'.1 (by simp)
    ·subst e;rw [List.contains_iff_mem.2 hj] at hnd';exact absurd hnd'.2 (by simp)
   rw [vobs_get hv i hmem o hoi w hx a hacc]
   simp only [Oper.upon,hd]
   exact ih _ _ _ (by omega) (by simpa using hs) (hcl.set hoi hall) (hI.val hk hoi hd e1 e2 e3 e4)
theorem cw_twin {id:Nat}(hmix:P.follows .mixedOrders=true) (T:TypeId) (zs us1 us2:List Value) (j1 s1 k1 j2 s2 k2:Nat) (vs:List Value) (is:List Nat) (dss rl:List (List Nat)) (ps:List (Nat×Nat)){w:World}(hk:detOk n ol [s1,s2] l dss rl ps=true) (ht:(twOk ol.length dss rl j1 s1 k1 j2 s2 k2 is&& !is.contains j1&& !is.contains j2&&is.all (fun i=>decide (i<ol.length)))=true)
  (hm1:Makes P n ol l T zs j1) (hm2:Makes P n ol l T zs j2) (hf1:Fills P n ol vs w l T zs us1 j1 s1 k1) (hf2:Fills P n ol vs w l T zs us2 j2 s2 k2) (hv:VObs P n ol vs w dss l is) (hfin:TwEnd Q n ol vs l w T us1 us2 j1 j2 is):cw P Q n (.region id ol.toArray true) l w:=fun a ha=>by
 refine wp_region_any hmix ?_
 simp only [Bool.and_eq_true,Bool.not_eq_true',List.all_eq_true,decide_eq_true_eq] at ht
 obtain⟨⟨⟨h1,h2⟩,h3⟩,h4⟩:=ht
 have hsz:(Array.replicate ol.toArray.size false).size=ol.length:=by simp
 have hfalse:∀i,(Array.replicate ol.toArray.size false).getD i false=false:=by
  intro i
  simp only [Array.getD_eq_getD_getElem?,Array.getElem?_replicate]
  split <;> rfl
 have hI:TwI n ol l vs T zs us1 us2 j1 s1 j2 s2 w (Array.replicate ol.toArray.size false) a w.drew:=by
  refine⟨ha,(Ext.refl w).drew,?_,0,0,?_,?_,?_⟩
  ·intro i _ _ _ h;rw [hfalse] at h;cases h
  ·intro h;rw [hfalse] at h;cases h
  ·intro h;rw [hfalse] at h;cases h
  ·intro h;rw [hfalse] at h;cases h
 refine twin_any (detOk_spec hk) h1 (fun h=>by rw [List.contains_iff_mem.2 h] at h2;cases h2) (fun h=>by rw [List.contains_iff_mem.2 h] at h3;cases h3) h4 hv hm1 hm2 hf1 hf2 hfin ol.toArray.size _ a _ ?_ hsz (fun i o _ h=>by rw [hfalse] at h;cases h) hI
 refine Nat.le_trans List.countP_le_length ?_
 simp
theorem vobs_cons {i:Nat}{is:List Nat}{o:Oper}{v:Value}(ho:ol[i]?=some o){acc:Fr}(hv:(vs[i]?).getD undef=v) (hacc:dfr ol vs l (rch dss i)=acc) (h:∀w,Ext w0 w→RunD P n acc o w (.value v) w) (h':VObs P n ol vs w0 dss l is):VObs P n ol vs w0 dss l (i::is):=by
 refine⟨?_,h'⟩
 rw [ho]
 simp only
 rw [hv,hacc]
 exact h
theorem makes {j d:Nat}{ty:TypeId}{pos:String}{af:Array Edge}{z:Value}(ho:ol[j]?=some ⟨some d,.alloc T,ty,pos,af,none⟩) (hz:∀w,(zeroValue T).run P w= .ok z w) (hv:z.cells=zs.toArray):Makes P n ol l T zs j:=by
 unfold Makes
 rw [ho]
 intro w a _
 have e:(Instr.alloc T true (.tuple #[])).run P w= .ok (.pointer (some ⟨w.heap.size,0,none⟩)) (w.alloc (.cells zs.toArray T)):=by
  show ((zeroValue T>>=fun z=>(newVar T z>>=fun r=>pure (Value.pointer (some r))):Sem Value)).run P w=_
  rw [Sem.run_bind,hz w]
  show ((newVar T z>>=fun r=>pure (Value.pointer (some r)):Sem Value)).run P w=_
  rw [Sem.run_bind,run_newVar hv];rfl
 show ((Instr.alloc T true (.tuple #[])>>=fun r=>pure (Next.value r):Sem Next)).run P w=_
 rw [Sem.run_bind,e];rfl
theorem fills {j s k dj dk K:Nat}{us:List Value}{ty:TypeId}{pos:String}{af:Array Edge}{x y:Operand}(ho:ol[s]?=some ⟨none,.store T x y,ty,pos,af,none⟩) (hj:dstOf ol j=some dj) (hkk:dstOf ol k=some dk) (hval:(vs[k]?).getD undef= .agg us.toArray)
  (hx:∀v u,evo ((dj,v)::(dk,u)::l) x=some v) (hy:∀v u,evo ((dj,v)::(dk,u)::l) y=some u) (hT:AggT P T K) (hlen:us.length=K) (hz:zs.length=K) (h1:us.all (·.oneCell')=true):Fills P n ol vs w0 l T zs us j s k:=by
 unfold Fills
 rw [ho]
 intro w g _ hb
 obtain⟨w',hr,hb2,hu,_⟩:=run_stored (P:=P) hT hlen hb (off:=0) (by omega) h1 us (by unfold overl;rw [List.take_zero,List.nil_append,Nat.zero_add,hlen,←hz,List.drop_length,List.append_nil])
 refine⟨w',?_,hb2,hu⟩
 rw [hj,hkk,hval]
 exact rd_store (hx _ _) (hy _ _) hr
end
end Go.Proofs.YtipklngcpmkfhaaDoor
