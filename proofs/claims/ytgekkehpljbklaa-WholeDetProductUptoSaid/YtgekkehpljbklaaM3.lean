/- Parts Dt, Bs, Stm, Cm, Bst, Stp, Opst, Ir, Il, Lin, Im, Rel, Bof, Det, New, St1, joined. -/
import Derived.Test.YtgekkehpljbklaaM2
import Derived.RangeFuncNested
import Derived.RangeFuncLeaves
import Derived.OrdersIn
import Derived.TacticsIn

namespace Go.Proofs.Ytgekkehpljbklaa
def pm:Nat→Int
 | 0=>1
 | i+1=> -pm i
def sk (i r:Nat):Nat:=if r<i then r else r+1
def mi (A:Mx) (i:Nat):Mx:=fun r c=>A (sk i r) (c+1)
def dt:Nat→Mx→Int
 | 0,_=>1
 | n+1,A=>sm (n+1) fun i=>pm i*(A i 0*dt n (mi A i))
def srw (A:Mx) (r:Nat) (u:Nat→Int):Mx:=fun i j=>if i=r then u j else A i j
theorem srw_at (A:Mx) (r:Nat) (u:Nat→Int) (j:Nat):srw A r u r j=u j:=if_pos rfl
theorem srw_ne (A:Mx){r i:Nat}(u:Nat→Int) (j:Nat) (h:i≠r):srw A r u i j=A i j:=if_neg h
theorem sk_lt {i r n:Nat}(hr:r<n):sk i r<n+1:=by unfold sk;split <;> omega
theorem dt_congr {n:Nat}{A B:Mx}(h:∀i j,i<n→j<n→A i j=B i j):dt n A=dt n B:=by
 induction n generalizing A B with
 | zero=>rfl
 | succ n ih=>
  refine sm_congr fun i hi=>?_
  rw [h i 0 hi (by omega),ih (A:=mi A i) (B:=mi B i) fun r c hr hc=>h _ _ (sk_lt hr) (by omega)]
structure Alt (n:Nat) (F:Mx→Int):Prop where
 congr:∀A B:Mx,(∀i j,i<n→j<n→A i j=B i j)→F A=F B
 lin:∀(A:Mx) (r:Nat) (x:Int) (u v:Nat→Int),r<n→F (srw A r fun j=>x*u j+v j)=x*F (srw A r u)+F (srw A r v)
 alt:∀(A:Mx) (r s:Nat),r<s→s<n→(∀j,j<n→A r j=A s j)→F A=0
section
variable {n:Nat}{F:Mx→Int}
theorem srw_self (A:Mx) (r:Nat):srw A r (A r)=A:=by
 funext i j;unfold srw;split
 ·next h=>rw [h]
 ·rfl
theorem Alt.row0 (h:Alt n F) (A:Mx){r:Nat}(hr:r<n):F (srw A r fun _=>0)=0:=by
 have:=h.lin A r 1 (fun _=>0) (fun _=>0) hr
 simp only [Int.mul_zero,Int.add_zero] at this
 omega
theorem Alt.sum (h:Alt n F) (A:Mx){r:Nat}(hr:r<n) (m:Nat) (c:Nat→Int) (U:Nat→Nat→Int):F (srw A r fun j=>sm m fun l=>c l*U l j)=sm m fun l=>c l*F (srw A r (U l)):=by
 induction m with
 | zero=>exact h.row0 A hr
 | succ m ih=>
  have e:(fun j=>sm (m+1) fun l=>c l*U l j)=fun j=>c m*U m j+sm m fun l=>c l*U l j:=by
   funext j;exact Int.add_comm _ _
  rw [e,h.lin A r _ _ _ hr,ih];simp only [sm];omega
theorem Alt.of_adj (hc:∀A B:Mx,(∀i j,i<n→j<n→A i j=B i j)→F A=F B)
  (hl:∀(A:Mx) (r:Nat) (x:Int) (u v:Nat→Int),r<n→F (srw A r fun j=>x*u j+v j)=x*F (srw A r u)+F (srw A r v))
  (ha:∀(A:Mx) (r:Nat),r+1<n→(∀j,j<n→A r j=A (r+1) j)→F A=0):Alt n F:=by
 have hs:∀(A:Mx) (r:Nat),r+1<n→F (srw (srw A r (A (r+1))) (r+1) (A r))= -F A:=fun A r hr=>by
  let D:=fun (u v:Nat→Int)=>F (srw (srw A r u) (r+1) v)
  have l2:∀u v v',D u (fun j=>1*v j+v' j)=D u v+D u v':=fun u v v'=>by
   have:=hl (srw A r u) (r+1) 1 v v' hr
   rw [Int.one_mul] at this
   exact this
  have sw:∀u v,srw (srw A r u) (r+1) v=srw (srw A (r+1) v) r u:=fun u v=>by
   funext i j;unfold srw;split <;> (try split) <;> (first | omega | rfl)
  have l1:∀u u' v,D (fun j=>1*u j+u' j) v=D u v+D u' v:=fun u u' v=>by
   show F _=F _+F _
   rw [sw,sw,sw,hl _ r 1 u u' (by omega),Int.one_mul]
  have z:∀u,D u u=0:=fun u=>ha _ r hr fun j _=>by
   rw [srw_at,srw_ne _ _ _ (by omega),srw_at]
  have a:=z (fun j=>1*A r j+A (r+1) j)
  rw [l1,l2,l2,z,z] at a
  have b:D (A r) (A (r+1))=F A:=by
   show F _=_
   congr 1
   funext i j;unfold srw;split
   ·next h=>rw [h]
   ·split
    ·next h=>rw [h]
    ·rfl
  have c:F (srw (srw A r (A (r+1))) (r+1) (A r))=D (A (r+1)) (A r):=rfl
  rw [c];omega
 refine⟨hc,hl,fun A r s hrs hsn he=>?_⟩
 obtain⟨k,rfl⟩:∃k,s=r+1+k:=⟨s-(r+1),by omega⟩
 clear hrs
 induction k generalizing A with
 | zero=>exact ha A r hsn he
 | succ k ih=>
  have:=hs A (r+1+k) hsn
  have h2:=ih (srw (srw A (r+1+k) (A (r+1+k+1))) (r+1+k+1) (A (r+1+k))) (by omega) fun j hj=>by
   rw [srw_ne _ _ _ (by omega),srw_ne _ _ _ (by omega),srw_ne _ _ _ (by omega),srw_at]
   exact he j hj
  omega
theorem Alt.swap (h:Alt n F) (A:Mx){r s:Nat}(hr:r<n) (hs:s<n) (hne:r≠s):F (srw (srw A r (A s)) s (A r))= -F A:=by
 let D:=fun (u v:Nat→Int)=>F (srw (srw A r u) s v)
 have l2:∀u v v',D u (fun j=>1*v j+v' j)=D u v+D u v':=fun u v v'=>by
  have:=h.lin (srw A r u) s 1 v v' hs
  rw [Int.one_mul] at this
  exact this
 have sw:∀u v,srw (srw A r u) s v=srw (srw A s v) r u:=fun u v=>by
  funext i j;unfold srw;split <;> (try split) <;> (first | omega | rfl)
 have l1:∀u u' v,D (fun j=>1*u j+u' j) v=D u v+D u' v:=fun u u' v=>by
  show F _=F _+F _
  rw [sw,sw,sw,h.lin _ r 1 u u' hr,Int.one_mul]
 have z:∀u,D u u=0:=fun u=>by
  by_cases hlt:r<s
  ·exact h.alt _ r s hlt hs fun j _=>by rw [srw_at,srw_ne _ _ _ hne,srw_at]
  ·exact h.alt _ s r (by omega) hr fun j _=>by rw [srw_at,srw_ne _ _ _ hne,srw_at]
 have a:=z (fun j=>1*A r j+A s j)
 rw [l1,l2,l2,z,z] at a
 have b:D (A r) (A s)=F A:=by
  show F _=_
  congr 1
  funext i j;unfold srw;split
  ·next h=>rw [h]
  ·split
   ·next h=>rw [h]
   ·rfl
 have c:F (srw (srw A r (A s)) s (A r))=D (A s) (A r):=rfl
 rw [c];omega
theorem Alt.add (h:Alt n F) (A:Mx){r:Nat}(hr:r<n) (x:Int) (m:Nat) (y:Nat→Int) (ρ:Nat→Nat) (hρ:∀l,l<m→ρ l<n∧ρ l≠r):F (srw A r fun j=>x*A r j+sm m fun l=>y l*A (ρ l) j)=x*F A:=by
 rw [h.lin A r x (A r) _ hr,srw_self,h.sum A hr m y (fun l j=>A (ρ l) j)]
 have:(sm m fun l=>y l*F (srw A r fun j=>A (ρ l) j))=0:=by
  rw [←sm_zero m]
  refine sm_congr fun l hl=>?_
  obtain⟨h1,h2⟩:=hρ l hl
  have:F (srw A r fun j=>A (ρ l) j)=0:=by
   by_cases hlt:r<ρ l
   ·exact h.alt _ r (ρ l) hlt h1 fun j _=>by rw [srw_at,srw_ne _ _ _ h2]
   ·exact h.alt _ (ρ l) r (by omega) hr fun j _=>by rw [srw_at,srw_ne _ _ _ h2]
  rw [this,Int.mul_zero]
 rw [this];omega
def ef (f:Nat→Nat):Mx:=fun i j=>if f i=j then 1 else 0
theorem pigeon:∀(n:Nat) (f:Nat→Nat),(∀i,i<n+1→f i<n)→∃i j,i<j∧j<n+1∧f i=f j
 | 0,f,h=>absurd (h 0 (by omega)) (by omega)
 | n+1,f,h=>by
  by_cases he:∃i,i<n+1∧f i=f (n+1)
  ·obtain⟨i,hi,e⟩:=he;exact⟨i,n+1,hi,by omega,e⟩
  ·obtain⟨i,j,hij,hj,e⟩:=pigeon n (fun i=>if f i=n then f (n+1) else f i) fun i hi=>by
    have h1:=h i (by omega)
    have h2:=h (n+1) (by omega)
    have h3:f i≠f (n+1):=fun e=>he ⟨i,hi,e⟩
    show (if f i=n then f (n+1) else f i)<n
    split <;> omega
   refine⟨i,j,hij,by omega,?_⟩
   have h3:f i≠f (n+1):=fun e=>he ⟨i,by omega,e⟩
   have h4:f j≠f (n+1):=fun e=>he ⟨j,by omega,e⟩
   split at e <;> split at e <;> omega
theorem Alt.ef0 (h : Alt n F) (h0 : F m1 = 0) : ∀ (k : Nat), k ≤ n → ∀ f : Nat → Nat, (∀ i, i < n → f i < n) → (∀ i, i < n - k → f i = i) → F (ef f) = 0
  | 0, _, f, _, hi => by
    rw [h.congr _ m1 fun i j h1 _ => by unfold ef m1; rw [hi i (by omega)]]; exact h0
  | k + 1, hk, f, hf, hi => by
    by_cases he : f (n - (k + 1)) = n - (k + 1)
    · exact Alt.ef0 h h0 k (by omega) f hf fun i h1 => by
        by_cases e : i = n - (k + 1)
        · subst e; exact he
        · exact hi i (by omega)
    by_cases hs : ∃ s, n - (k + 1) < s ∧ s < n ∧ f s = n - (k + 1)
    · obtain ⟨s, h1, h2, h3⟩ := hs
      have hw := h.swap (ef f) (show n - (k + 1) < n by omega) h2 (by omega)
      have h4 := Alt.ef0 h h0 k (by omega) (fun i => if i = n - (k + 1) then f s else if i = s then f (n - (k + 1)) else f i) (fun i h1 => by
        show (if i = n - (k + 1) then f s else if i = s then f (n - (k + 1)) else f i) < n
        split
        · exact hf s h2
        · split
          · exact hf _ (by omega)
          · exact hf i h1) (fun i h1 => by
        show (if i = n - (k + 1) then f s else if i = s then f (n - (k + 1)) else f i) = i
        split
        · omega
        · rw [if_neg (by omega)]; exact hi i (by omega))
      have e : srw (srw (ef f) (n - (k + 1)) (ef f s)) s (ef f (n - (k + 1))) = ef (fun i => if i = n - (k + 1) then f s else if i = s then f (n - (k + 1)) else f i) := by
        funext i j
        unfold srw
        by_cases h5 : i = s
        · rw [if_pos h5]
          show (if f (n - (k + 1)) = j then (1 : Int) else 0) = if (if i = n - (k + 1) then f s else if i = s then f (n - (k + 1)) else f i) = j then 1 else 0
          rw [if_neg (show ¬ i = n - (k + 1) by omega), if_pos h5]
        · rw [if_neg h5]
          show _ = if (if i = n - (k + 1) then f s else if i = s then f (n - (k + 1)) else f i) = j then (1 : Int) else 0
          by_cases h6 : i = n - (k + 1)
          · rw [if_pos h6, if_pos h6]; rfl
          · rw [if_neg h6, if_neg h6, if_neg h5]; rfl
      rw [e, h4] at hw
      omega
    · -- none goes there: two go to one place
      obtain ⟨i, j, hij, hj, e⟩ := pigeon (n - 1) (fun i => if f i = n - 1 then n - (k + 1) else f i) fun i h1 => by
        have h2 := hf i (by omega)
        show (if f i = n - 1 then n - (k + 1) else f i) < n - 1
        split
        · next h3 =>
          by_cases h4 : k = 0
          · subst h4
            exfalso
            by_cases h5 : i = n - 1
            · subst h5; exact he h3
            · have := hi i (by omega); omega
          · omega
        · omega
      have hne : ∀ t, t < n → f t ≠ n - (k + 1) := fun t ht e => by
        by_cases h1 : t < n - (k + 1)
        · have := hi t h1; omega
        · by_cases h2 : t = n - (k + 1)
          · subst h2; exact he e
          · exact hs ⟨t, by omega, ht, e⟩
      refine h.alt _ i j hij (by omega) fun c _ => ?_
      have e' : f i = f j := by
        have h1 := hne i (by omega)
        have h2 := hne j (by omega)
        split at e <;> split at e <;> omega
      unfold ef
      rw [e']
theorem Alt.zero (h:Alt n F) (h0:F m1=0):∀(k:Nat),k≤n→∀(A:Mx) (f:Nat→Nat),(∀i,i<n→f i<n)→(∀i j,k≤i→i<n→j<n→A i j=ef f i j)→F A=0
 | 0,_,A,f,hf,ha=>by
  rw [h.congr A (ef f) fun i j hi hj=>ha i j (by omega) hi hj]
  exact h.ef0 h0 n (by omega) f hf fun i hi=>by omega
 | k+1,hk,A,f,hf,ha=>by
  have e:F A=F (srw A k fun j=>sm n fun l=>A k l*ef (fun _=>l) 0 j):=h.congr _ _ fun i j hi hj=>by
   by_cases h1:i=k
   ·subst h1
    rw [srw_at]
    have:(sm n fun l=>A i l*ef (fun _=>l) 0 j)=sm n fun l=>if l=j then A i l else 0:=sm_congr fun l _=>by
     unfold ef;split <;> omega
    rw [this,sm_at hj]
   ·rw [srw_ne _ _ _ h1]
  rw [e,h.sum A (by omega) n (A k) (fun l=>ef (fun _=>l) 0),←sm_zero n]
  refine sm_congr fun l hl=>?_
  rw [Alt.zero h h0 k (by omega) _ (fun i=>if i=k then l else f i) (fun i hi=>by
   show (if i=k then l else f i)<n
   split
   ·exact hl
   ·exact hf i hi) (fun i j h1 hi hj=>by
   by_cases h2:i=k
   ·subst h2;rw [srw_at];show _=if (if i=i then l else f i)=j then (1:Int) else 0;rw [if_pos rfl];rfl
   ·rw [srw_ne _ _ _ h2,ha i j (by omega) hi hj];show _=if (if i=k then l else f i)=j then (1:Int) else 0;rw [if_neg h2];rfl),Int.mul_zero]
end
theorem mi_sr_at (A:Mx) (r:Nat) (u:Nat→Int):mi (srw A r u) r=mi A r:=by
 funext i j;unfold mi;exact srw_ne _ _ _ (by unfold sk;split <;> omega)
theorem mi_sr_lt (A:Mx){r i:Nat}(u:Nat→Int) (h:r<i):mi (srw A r u) i=srw (mi A i) r (fun j=>u (j+1)):=by
 funext a b;unfold mi srw sk
 by_cases e:a=r
 ·subst e;rw [if_pos h,if_pos rfl,if_pos rfl]
 ·rw [if_neg e];rw [if_neg];split <;> omega
theorem mi_sr_gt (A:Mx){r i:Nat}(u:Nat→Int) (h:i<r):mi (srw A r u) i=srw (mi A i) (r-1) (fun j=>u (j+1)):=by
 funext a b;unfold mi srw sk
 by_cases e:a=r-1
 ·subst e;rw [if_neg (show¬r-1<i by omega),if_pos (by omega),if_pos rfl]
 ·rw [if_neg e];rw [if_neg];split <;> omega
theorem dt_lin:∀(n:Nat) (A:Mx) (r:Nat) (x:Int) (u v:Nat→Int),r<n→dt n (srw A r fun j=>x*u j+v j)=x*dt n (srw A r u)+dt n (srw A r v)
 | 0,_,r,_,_,_,h=>by omega
 | n+1,A,r,x,u,v,h=>by
  simp only [dt]
  rw [←sm_mul,←sm_add]
  refine sm_congr fun i hi=>?_
  by_cases e:i=r
  ·subst e
   rw [mi_sr_at,mi_sr_at,mi_sr_at,srw_at,srw_at,srw_at];grind
  ·rw [srw_ne _ _ _ e,srw_ne _ _ _ e,srw_ne _ _ _ e]
   by_cases hlt:r<i
   ·rw [mi_sr_lt _ _ hlt,mi_sr_lt _ _ hlt,mi_sr_lt _ _ hlt,dt_lin n (mi A i) r x _ _ (by omega)];grind
   ·rw [mi_sr_gt _ _ (show i<r by omega),mi_sr_gt _ _ (show i<r by omega),mi_sr_gt _ _ (show i<r by omega),dt_lin n (mi A i) (r-1) x _ _ (by omega)];grind
theorem sm_two {n r:Nat}(h:r+1<n) (f:Nat→Int) (h0:∀i,i<n→i≠r→i≠r+1→f i=0):sm n f=f r+f (r+1):=by
 rw [sm_congr (g:=fun i=>(if i=r then f i else 0)+if i=r+1 then f i else 0) (fun i hi=>by
  by_cases e:i=r
  ·subst e;rw [if_pos rfl,if_neg (by omega)];omega
  ·by_cases e2:i=r+1
   ·subst e2;rw [if_neg e,if_pos rfl];omega
   ·rw [if_neg e,if_neg e2,h0 i hi e e2];rfl),sm_add,sm_at (by omega),sm_at h]
theorem dt_adj:∀(n:Nat) (A:Mx) (r:Nat),r+1<n→(∀j,j<n→A r j=A (r+1) j)→dt n A=0
 | 0,_,r,h,_=>by omega
 | n+1,A,r,h,he=>by
  simp only [dt]
  rw [sm_two h _ fun i hi h1 h2=>?_]
  ·have e:dt n (mi A r)=dt n (mi A (r+1)):=dt_congr fun i j hi hj=>by
    unfold mi sk
    by_cases h3:i<r
    ·rw [if_pos h3,if_pos (by omega)]
    ·by_cases h4:i=r
     ·subst h4;rw [if_neg h3,if_pos (by omega)];exact (he (j+1) (by omega)).symm
     ·rw [if_neg h3,if_neg (by omega)]
   rw [e,he 0 (by omega)];simp only [pm];rw [Int.neg_mul];omega
  ·have:dt n (mi A i)=0:=by
    by_cases h3:i<r
    ·refine dt_adj n (mi A i) (r-1) (by omega) fun j hj=>?_
     unfold mi sk
     rw [if_neg (by omega),if_neg (by omega),show r-1+1=r by omega];exact he (j+1) (by omega)
    ·refine dt_adj n (mi A i) r (by omega) fun j hj=>?_
     unfold mi sk
     rw [if_pos (by omega),if_pos (by omega)];exact he (j+1) (by omega)
   rw [this,Int.mul_zero,Int.mul_zero]
theorem dt_alt (n:Nat):Alt n (dt n):=Alt.of_adj (fun _ _ h=>dt_congr h) (fun A r x u v h=>dt_lin n A r x u v h) (fun A r h he=>dt_adj n A r h he)
theorem dt_one:∀n,dt n m1=1
 | 0=>rfl
 | n+1=>by
  simp only [dt]
  rw [sm_front,sm_congr (g:=fun _=>0) (fun i _=>by
   have:m1 (i+1) 0=0:=if_neg (by omega)
   rw [this];grind),sm_zero]
  have e:mi m1 0=m1:=by
   funext a b;unfold mi sk m1
   rw [if_neg (show¬a<0 by omega)]
   by_cases h:a=b
   ·rw [if_pos h,if_pos (by omega)]
   ·rw [if_neg h,if_neg (by omega)]
  rw [e,dt_one n];rfl
theorem Alt.eq {n:Nat}{F:Mx→Int}(h:Alt n F) (A:Mx):F A=dt n A*F m1:=by
 have hd:=dt_alt n
 have h2:Alt n (fun A=> -F m1*dt n A+F A):=⟨fun A B e=>by show _=_;rw [hd.congr A B e,h.congr A B e],
  fun A r x u v hr=>by show _*_+_=x*(_*_+_)+(_*_+_);rw [hd.lin A r x u v hr,h.lin A r x u v hr];grind,
  fun A r s h1 h2 he=>by show _*_+_=_;rw [hd.alt A r s h1 h2 he,h.alt A r s h1 h2 he];omega⟩
 have:=h2.zero (by show-F m1*dt n m1+F m1=0;rw [dt_one];omega) n (by omega) A id (fun i hi=>hi) (fun i j h1 h2=>by omega)
 have e: -F m1*dt n A+F A=0:=this
 rw [Int.neg_mul] at e
 rw [Int.mul_comm];omega
theorem dt_mul (n:Nat) (A B:Mx):dt n (mm n A B)=dt n A*dt n B:=by
 have hd:=dt_alt n
 have e:∀(A:Mx) (r:Nat) (u:Nat→Int),mm n (srw A r u) B=srw (mm n A B) r fun j=>sm n fun k=>u k*B k j:=fun A r u=>by
  funext i j
  by_cases h:i=r
  ·subst h;rw [srw_at];exact sm_congr fun k _=>by rw [srw_at]
  ·rw [srw_ne _ _ _ h];exact sm_congr fun k _=>by rw [srw_ne _ _ _ h]
 have h:Alt n (fun A=>dt n (mm n A B)):=⟨fun A A' he=>dt_congr fun i j hi hj=>mm_congr (fun k hk=>he i k hi hk) (fun k _=>rfl),
  fun A r x u v hr=>by
   show dt n _=x*dt n _+dt n _
   rw [e,e,e,←hd.lin _ r x _ _ hr]
   congr 2
   funext j
   rw [←sm_mul,←sm_add];exact sm_congr fun k _=>by grind,
  fun A r s h1 h2 he=>hd.alt _ r s h1 h2 fun j _=>sm_congr fun k hk=>by rw [he k hk]⟩
 have h2:=h.eq A
 have h3:dt n (mm n m1 B)=dt n B:=dt_congr fun i j hi _=>m1_mm B j hi
 simp only [h3] at h2
 exact h2
def tq (A:Mx):Mx:=fun i j=>A j i
theorem dt_collin:∀(n:Nat) (A:Mx) (r:Nat) (x:Int) (u v:Nat→Int),r<n→dt n (tq (srw A r fun j=>x*u j+v j))=x*dt n (tq (srw A r u))+dt n (tq (srw A r v))
 | 0,_,r,_,_,_,h=>by omega
 | n+1,A,r,x,u,v,h=>by
  simp only [dt]
  rw [←sm_mul,←sm_add]
  refine sm_congr fun i hi=>?_
  cases r with
  | zero=>
   have e:∀w:Nat→Int,mi (tq (srw A 0 w)) i=mi (tq A) i:=fun w=>by
    funext a b;unfold mi tq;exact srw_ne _ _ _ (by omega)
   rw [e,e,e]
   show _*((x*u i+v i)*_)=x*(_*(u i*_))+_*(v i*_)
   grind
  | succ r=>
   have e:∀w:Nat→Int,mi (tq (srw A (r+1) w)) i=tq (srw (tq (mi (tq A) i)) r fun j=>w (sk i j)):=fun w=>by
    funext a b
    show srw A (r+1) w (b+1) (sk i a)=srw (tq (mi (tq A) i)) r (fun j=>w (sk i j)) b a
    by_cases h:b=r
    ·subst h;rw [srw_at,srw_at]
    ·rw [srw_ne _ _ _ (by omega),srw_ne _ _ _ h];rfl
   have e0:∀w:Nat→Int,tq (srw A (r+1) w) i 0=A 0 i:=fun w=>srw_ne _ _ _ (by omega)
   rw [e,e,e,e0,e0,e0,dt_collin n _ r x (fun j=>u (sk i j)) (fun j=>v (sk i j)) (by omega)];grind
theorem sk_sk {p q r:Nat}(h:p<q):sk q (sk p r)=sk p (sk (q-1) r):=by
 unfold sk
 by_cases h1:r<p
 ·rw [if_pos h1,if_pos (show r<q by omega),if_pos (show r<q-1 by omega),if_pos h1]
 ·rw [if_neg h1]
  by_cases h2:r+1<q
  ·rw [if_pos h2,if_pos (show r<q-1 by omega),if_neg h1]
  ·rw [if_neg h2,if_neg (show¬r<q-1 by omega),if_neg (show¬r+1<p by omega)]
theorem pm_add (i j:Nat):pm (i+j)=pm i*pm j:=by
 induction j with
 | zero=>simp [pm]
 | succ j ih=>rw [←Nat.add_assoc,pm,ih,pm,Int.mul_neg]
theorem dt_col01 (n:Nat) (A:Mx) (h:∀i,i<n+2→A i 0=A i 1):dt (n+2) A=0:=by
 let g:=fun p q=>pm (p+q)*(A p 0*A q 0*dt n fun r c=>A (sk q (sk p r)) (c+2))
 have e1:dt (n+2) A=sm (n+2) fun i=>sm (n+1) fun k=>pm i*(A i 0*(pm k*(A (sk i k) 0*dt n fun r c=>A (sk i (sk k r)) (c+2)))):=by
  rw [dt]
  refine sm_congr fun i hi=>?_
  rw [dt,←sm_mul,←sm_mul]
  refine sm_congr fun k hk=>?_
  have:mi A i k 0=A (sk i k) 0:=(h _ (sk_lt hk)).symm
  rw [this];rfl
 have e2:∀i,i<n+2→(sm (n+1) fun k=>pm i*(A i 0*(pm k*(A (sk i k) 0*dt n fun r c=>A (sk i (sk k r)) (c+2)))))=(sm (n+2) fun k=>if k<i then g k i else 0)+ -1*sm (n+2) fun l=>if i<l then g i l else 0:=fun i hi=>by
  have h1:(sm (n+2) fun k=>if k<i then g k i else 0)=sm (n+1) fun k=>if k<i then g k i else 0:=by
   show _+(if n+1<i then g (n+1) i else 0)=_
   rw [if_neg (by omega)];omega
  rw [h1,sm_front (n+1) fun l=>if i<l then g i l else 0,if_neg (by omega),Int.zero_add,←sm_mul,←sm_add]
  refine sm_congr fun k hk=>?_
  by_cases hlt:k<i
  ·rw [if_pos hlt,if_neg (by omega)]
   have:sk i k=k:=if_pos hlt
   rw [this]
   show _=pm (k+i)*_+_
   rw [pm_add];grind
  ·rw [if_neg hlt,if_pos (by omega)]
   have h2:sk i k=k+1:=if_neg hlt
   have h3:(fun r c=>A (sk i (sk k r)) (c+2))=fun r c=>A (sk (k+1) (sk i r)) (c+2):=by
    funext r c
    rw [sk_sk (show i<k+1 by omega)];rfl
   rw [h2,h3]
   show _=0+ -1*(pm (i+(k+1))*_)
   rw [pm_add];simp only [pm];grind
 rw [e1,sm_congr e2,sm_add,sm_mul,sm_swap];omega
theorem dt_coladj:∀(n:Nat) (A:Mx) (r:Nat),r+1<n→(∀i,i<n→A i r=A i (r+1))→dt n A=0
 | 0,_,r,h,_=>by omega
 | 1,_,r,h,_=>by omega
 | n+2,A,0,_,he=>dt_col01 n A he
 | n+2,A,r+1,h,he=>by
  rw [dt,←sm_zero (n+2)]
  refine sm_congr fun i hi=>?_
  rw [dt_coladj (n+1) (mi A i) r (by omega) fun a ha=>he _ (sk_lt ha)];grind
theorem dt_talt (n:Nat):Alt n (fun A=>dt n (tq A)):=
 Alt.of_adj (fun _ _ h=>dt_congr fun i j hi hj=>h j i hj hi) (fun A r x u v h=>dt_collin n A r x u v h) (fun A r h he=>dt_coladj n (tq A) r h fun i hi=>he i hi)
theorem dt_tq (n:Nat) (A:Mx):dt n (tq A)=dt n A:=by
 have:=(dt_talt n).eq A
 have e:tq m1=m1:=by
  funext i j
  show (if j=i then (1:Int) else 0)=if i=j then 1 else 0
  by_cases h:i=j
  ·rw [if_pos h,if_pos h.symm]
  ·rw [if_neg h,if_neg (fun e=>h e.symm)]
 simp only [e,dt_one,Int.mul_one] at this
 exact this
theorem dt_corner:∀(k:Nat) (A:Mx),(∀j,j<k→A k j=0)→dt (k+1) A=A k k*dt k A
 | 0,A,_=>by simp [dt,sm,pm]
 | k+1,A,h=>by
  have e0:dt (k+2) A=(sm (k+1) fun i=>pm i*(A i 0*dt (k+1) (mi A i)))+pm (k+1)*(A (k+1) 0*dt (k+1) (mi A (k+1))):=rfl
  have:∀i,i<k+1→pm i*(A i 0*dt (k+1) (mi A i))=A (k+1) (k+1)*(pm i*(A i 0*dt k (mi A i))):=fun i hi=>by
   have e:mi A i k=fun c=>A (k+1) (c+1):=by
    funext c;unfold mi sk;rw [if_neg (by omega)]
   rw [dt_corner k (mi A i) fun j hj=>by rw [e];exact h (j+1) (by omega),e];grind
  rw [e0,h 0 (by omega),sm_congr this,sm_mul,Int.zero_mul,Int.mul_zero,Int.add_zero];rfl
def bord (P:Mx) (k i j:Nat):Mx:=fun r c=>P (if r<k then r else i) (if c<k then c else j)
def bm (P:Mx) (k i j:Nat):Int:=dt (k+1) (bord P k i j)
theorem bm_0 (P:Mx) (i j:Nat):bm P 0 i j=P i j:=by simp [bm,bord,dt,sm,pm]
theorem bm_self (P:Mx) (k:Nat):bm P k k k=dt (k+1) P:=dt_congr fun i j hi hj=>by
 unfold bord
 have h1:(if i<k then i else k)=i:=by split <;> omega
 have h2:(if j<k then j else k)=j:=by split <;> omega
 rw [h1,h2]
theorem bm_row (P:Mx) (k i:Nat):∃x:Nat→Int,∀j,bm P k i j=dt k P*P i j+sm k fun l=>x l*P l j:=by
 let B:=tq (bord P k i 0)
 let U:=fun l=>dt (k+1) (tq (srw B k fun r=>if l=r then 1 else 0))
 refine⟨U,fun j=>?_⟩
 have h:=dt_talt (k+1)
 have e:bm P k i j=dt (k+1) (tq (srw B k fun r=>sm (k+1) fun l=>P (if l<k then l else i) j*if l=r then 1 else 0)):=dt_congr fun r c hr hc=>by
  show _=srw B k _ c r
  by_cases h:c=k
  ·subst h
   rw [srw_at,sm_congr (g:=fun l=>if l=r then P (if l<c then l else i) j else 0) (fun l _=>by
    by_cases h2:l=r
    ·rw [if_pos h2,if_pos h2,Int.mul_one]
    ·rw [if_neg h2,if_neg h2,Int.mul_zero]),sm_at hr]
   unfold bord;rw [if_neg (show¬c<c by omega)]
  ·rw [srw_ne _ _ _ h]
   show P _ (if c<k then c else j)=P _ (if c<k then c else 0)
   rw [if_pos (show c<k by omega),if_pos (show c<k by omega)]
 have e2:U k=dt k P:=by
  show dt (k+1) (tq _)=_
  rw [dt_tq,dt_corner k _ fun j hj=>by rw [srw_at,if_neg (show¬k=j by omega)],srw_at,if_pos rfl,Int.one_mul,←dt_tq]
  refine dt_congr fun a b ha hb=>?_
  show srw B k _ b a=_
  rw [srw_ne _ _ _ (by omega)]
  show P (if a<k then a else i) (if b<k then b else 0)=_
  rw [if_pos ha,if_pos hb]
 rw [e,h.sum B (by omega) (k+1) (fun l=>P (if l<k then l else i) j) (fun l r=>if l=r then 1 else 0)]
 show (sm k fun l=>P (if l<k then l else i) j*U l)+P (if k<k then k else i) j*U k=_
 rw [e2,if_neg (show¬k<k by omega),sm_congr (g:=fun l=>U l*P l j) (fun l hl=>by rw [if_pos hl,Int.mul_comm]),Int.mul_comm];omega
theorem bm_tq (P:Mx) (k i j:Nat):bm (tq P) k j i=bm P k i j:=(dt_tq (k+1) (bord P k i j))
theorem bm_col (P:Mx) (k j:Nat):∃z:Nat→Int,∀i,bm P k i j=dt k P*P i j+sm k fun l=>z l*P i l:=by
 obtain⟨z,h⟩:=bm_row (tq P) k j
 exact⟨z,fun i=>by rw [←bm_tq,h i,dt_tq];rfl⟩
theorem bm_old (P:Mx){k i:Nat}(j:Nat) (hi:i<k):bm P k i j=0:=(dt_alt (k+1)).alt _ i k hi (by omega) fun c _=>by
 unfold bord;rw [if_pos hi,if_neg (show¬k<k by omega)]
theorem bm_oldc (P:Mx){k j:Nat}(i:Nat) (hj:j<k):bm P k i j=0:=by rw [←bm_tq];exact bm_old _ _ hj
theorem br_alg (D E d U V X Y:Int):D*(d*U+X)-E*(d*V+Y)=D*d*U+(D*X+ -E*Y+ -E*d*V):=by grind
theorem bm_step (P:Mx){k:Nat}(i j:Nat) (hD:bm P k k k≠0):bm P k k k*bm P k i j-bm P k i k*bm P k k j=dt k P*bm P (k+1) i j:=by
 obtain⟨x,hx⟩:=bm_row P k i
 obtain⟨y,hy⟩:=bm_row P k k
 let N:=bord P (k+1) i j
 let R:=fun c=>bm P k k k*bm P k i (if c<k+1 then c else j)-bm P k i k*bm P k k (if c<k+1 then c else j)
 have h:=dt_alt (k+2)
 have e:srw N (k+1) R=srw N (k+1) fun c=>(bm P k k k*dt k P)*N (k+1) c+sm (k+1) fun l=>(if l<k then bm P k k k*x l-bm P k i k*y l else-bm P k i k*dt k P)*N l c:=by
  congr 1
  funext c
  have n1:N (k+1) c=P i (if c<k+1 then c else j):=by show P (if k+1<k+1 then k+1 else i) _=_;rw [if_neg (show¬k+1<k+1 by omega)]
  have n2:∀l,l<k+1→N l c=P l (if c<k+1 then c else j):=fun l hl=>by show P (if l<k+1 then l else i) _=_;rw [if_pos hl]
  rw [sm,n1,n2 k (by omega),if_neg (show¬k<k by omega),sm_congr (g:=fun l=>bm P k k k*(x l*P l (if c<k+1 then c else j))+ -bm P k i k*(y l*P l (if c<k+1 then c else j))) (fun l hl=>by rw [if_pos hl,n2 l (by omega)];grind),sm_add,sm_mul,sm_mul]
  show bm P k k k*bm P k i (if c<k+1 then c else j)-bm P k i k*bm P k k (if c<k+1 then c else j)=_
  rw [hx (if c<k+1 then c else j),hy (if c<k+1 then c else j)]
  exact br_alg _ _ _ _ _ _ _
 have a:=h.add N (show k+1<k+2 by omega) (bm P k k k*dt k P) (k+1) (fun l=>if l<k then bm P k k k*x l-bm P k i k*y l else-bm P k i k*dt k P) (fun l=>l) (fun l hl=>⟨by omega,by omega⟩)
 rw [←e,dt_corner (k+1) _ fun c hc=>?_,srw_at] at a
 ·have e3:dt (k+1) (srw N (k+1) R)=bm P k k k:=by
   rw [bm_self]
   refine dt_congr fun r c hr hc=>?_
   rw [srw_ne _ _ _ (by omega)]
   show P (if r<k+1 then r else i) (if c<k+1 then c else j)=_
   rw [if_pos hr,if_pos hc]
  rw [e3] at a
  have e4:R (k+1)=bm P k k k*bm P k i j-bm P k i k*bm P k k j:=by
   show bm P k k k*bm P k i (if k+1<k+1 then k+1 else j)-bm P k i k*bm P k k (if k+1<k+1 then k+1 else j)=_
   rw [if_neg (show¬k+1<k+1 by omega)]
  rw [e4] at a
  have e5:dt (k+2) N=bm P (k+1) i j:=rfl
  rw [e5] at a
  refine Int.eq_of_mul_eq_mul_left hD ?_
  rw [Int.mul_comm,a,Int.mul_assoc]
 ·rw [srw_at]
  show _*bm P k i (if c<k+1 then c else j)-_*bm P k k (if c<k+1 then c else j)=0
  rw [if_pos hc]
  by_cases h1:c<k
  ·rw [bm_oldc P i h1,bm_oldc P k h1];omega
  ·have:c=k:=by omega
   subst this;rw [Int.mul_comm];omega
theorem bm_none (P:Mx){k n:Nat}(hk:k<n) (hd:dt k P≠0) (h:∀i,k≤i→i<n→bm P k i k=0):dt n P=0:=by
 obtain⟨z,hz⟩:=bm_col P k k
 have ht:=dt_talt n
 have a:=ht.add (tq P) hk (dt k P) k z (fun l=>l) (fun l hl=>⟨by omega,by omega⟩)
 have e:dt n (tq (srw (tq P) k fun i=>dt k P*tq P k i+sm k fun l=>z l*tq P l i))=dt n (tq (srw (tq P) k fun _=>0)):=dt_congr fun i j hi hj=>by
  show srw (tq P) k _ j i=srw (tq P) k _ j i
  by_cases h1:j=k
  ·subst h1
   rw [srw_at,srw_at]
   show dt j P*P i j+(sm j fun l=>z l*P i l)=0
   rw [←hz i]
   by_cases h2:i<j
   ·exact bm_old P j h2
   ·exact h i (by omega) hi
  ·rw [srw_ne _ _ _ h1,srw_ne _ _ _ h1]
 rw [e,ht.row0 (tq P) hk] at a
 have:dt k P*dt n P=0:=a.symm
 rcases Int.mul_eq_zero.1 this with h | h
 ·exact absurd h hd
 ·exact h
end Go.Proofs.Ytgekkehpljbklaa

namespace Go.Proofs.Ytgekkehpljbklaa
open Go.RowKit
theorem ln_pm (i:Nat) (x:Int):ln (pm i*x)=ln x:=by
 induction i with
 | zero=>rw [pm,Int.one_mul]
 | succ i ih=>rw [pm,Int.neg_mul,ln_neg,ih]
theorem ln_dt {K:Nat}:∀(n:Nat) (A:Mx),(∀i j,i<n→j<n→ln (A i j)≤K)→ln (dt n A)≤1+n*(K+n)
 | 0,_,_=>Nat.le_trans (ln_w1 (x:=1) (by decide) (by decide)) (by omega)
 | n+1,A,h=>by
  have h1:ln (dt (n+1) A)≤K+(1+n*(K+n))+(n+1):=ln_sm fun i hi=>by
   rw [ln_pm]
   exact ln_mul (h i 0 hi (by omega)) (ln_dt n _ fun a b ha hb=>h _ _ (sk_lt ha) (by omega))
  have e:(n+1)*(K+(n+1))=n*(K+n)+n+(K+(n+1)):=by rw [Nat.succ_mul,←Nat.add_assoc K n 1,Nat.mul_add n (K+n) 1];omega
  omega
theorem ln_bm {n k i j:Nat}{A:Mx}(hn:n≤64) (h:∀i j,i<n→j<n→ln (A i j)≤1048576) (hk:k<n) (hi:i<n) (hj:j<n):ln (bm A k i j)≤134217728:=by
 have h1:=ln_dt (K:=1048576) (k+1) (bord A k i j) fun a b ha hb=>by
  unfold bord
  refine h _ _ ?_ ?_ <;> split <;> omega
 have h2:=Nat.mul_le_mul (show k+1≤64 by omega) (show 1048576+(k+1)≤1048640 by omega)
 show ln (dt (k+1) (bord A k i j))≤_
 omega
def pr (X:Mx) (ps:List Nat):Mx:=fun i j=>X (ps.getD i 0) j
structure Per (n:Nat) (ps:List Nat):Prop where
 len:ps.length=n
 lt:∀i,i<n→ps.getD i 0<n
 inj:∀i j,i<n→j<n→ps.getD i 0=ps.getD j 0→i=j
structure Inv (n:Nat) (X:Mx) (k:Nat) (ps:List Nat) (Z:Mx) (tu:Bool) (z:Int):Prop where
 per:Per n ps
 ent:∀i j,k≤i→i<n→k≤j→j<n→Z (ps.getD i 0) j=bm (pr X ps) k i j
 last:z=dt k (pr X ps)
 ne:z≠0
 sgn:dt n (pr X ps)=(if tu then-1 else 1)*dt n X
def swp (ps:List Nat) (p k:Nat):List Nat:=(ps.set p (ps.getD k 0)).set k (ps.getD p 0)
theorem swp_get {ps:List Nat}{n p k i:Nat}(hl:ps.length=n) (hp:p<n) (hk:k<n):(swp ps p k).getD i 0=if i=k then ps.getD p 0 else if i=p then ps.getD k 0 else ps.getD i 0:=by
 unfold swp
 rw [getD_set (by rw [List.length_set];omega)]
 by_cases h:i=k
 ·rw [if_pos h,if_pos h]
 ·rw [if_neg h,if_neg h,getD_set (by omega)]
theorem Per.swp {n:Nat}{ps:List Nat}(h:Per n ps){p k:Nat}(hp:p<n) (hk:k<n):Per n (swp ps p k):=by
 refine⟨by unfold Go.Proofs.Ytgekkehpljbklaa.swp;rw [List.length_set,List.length_set];exact h.len,fun i hi=>?_,fun i j hi hj e=>?_⟩
 ·rw [swp_get h.len hp hk]
  split
  ·exact h.lt p hp
  ·split
   ·exact h.lt k hk
   ·exact h.lt i hi
 ·rw [swp_get h.len hp hk,swp_get h.len hp hk] at e
  by_cases h1:i=k
  ·rw [if_pos h1] at e
   by_cases h2:j=k
   ·omega
   ·rw [if_neg h2] at e
    by_cases h3:j=p
    ·rw [if_pos h3] at e;have:=h.inj _ _ hp hk e;omega
    ·rw [if_neg h3] at e;have:=h.inj _ _ hp hj e;omega
  ·rw [if_neg h1] at e
   by_cases h2:j=k
   ·rw [if_pos h2] at e
    by_cases h3:i=p
    ·rw [if_pos h3] at e;have:=h.inj _ _ hk hp e;omega
    ·rw [if_neg h3] at e;have:=h.inj _ _ hi hp e;omega
   ·rw [if_neg h2] at e
    by_cases h3:i=p
    ·rw [if_pos h3] at e
     by_cases h4:j=p
     ·omega
     ·rw [if_neg h4] at e;have:=h.inj _ _ hk hj e;omega
    ·rw [if_neg h3] at e
     by_cases h4:j=p
     ·rw [if_pos h4] at e;have:=h.inj _ _ hi hk e;omega
     ·rw [if_neg h4] at e;exact h.inj _ _ hi hj e
theorem Inv.swp {n k p:Nat}{X Z:Mx}{ps:List Nat}{tu:Bool}{z:Int}(h:Inv n X k ps Z tu z) (hk:k<n) (hkp:k≤p) (hp:p<n) (hne:p≠k):Inv n X k (swp ps p k) Z (!tu) z:=by
 have hg:=fun i=>swp_get (i:=i) h.per.len hp hk
 have e1:∀i j c,bm (pr X (Go.Proofs.Ytgekkehpljbklaa.swp ps p k)) k i j=bm (pr X ps) k (if i=k then p else if i=p then k else i) j∨c=c+1:=fun i j c=>Or.inl (dt_congr fun a b ha hb=>by
  show X ((Go.Proofs.Ytgekkehpljbklaa.swp ps p k).getD (if a<k then a else i) 0) _=X (ps.getD (if a<k then a else if i=k then p else if i=p then k else i) 0) _
  rw [hg]
  congr 1
  by_cases h1:a<k
  ·rw [if_pos h1,if_neg (by omega),if_neg (by omega),if_pos h1]
  ·rw [if_neg h1,if_neg h1]
   by_cases h2:i=k
   ·rw [if_pos h2,if_pos h2]
   ·rw [if_neg h2,if_neg h2]
    by_cases h3:i=p
    ·rw [if_pos h3,if_pos h3]
    ·rw [if_neg h3,if_neg h3])
 have e2:∀i j,bm (pr X (Go.Proofs.Ytgekkehpljbklaa.swp ps p k)) k i j=bm (pr X ps) k (if i=k then p else if i=p then k else i) j:=fun i j=>(e1 i j 0).resolve_right (by omega)
 refine⟨h.per.swp hp hk,fun i j h1 h2 h3 h4=>?_,?_,h.ne,?_⟩
 ·rw [e2,hg]
  by_cases h5:i=k
  ·rw [if_pos h5,if_pos h5];exact h.ent p j hkp hp h3 h4
  ·rw [if_neg h5,if_neg h5]
   by_cases h6:i=p
   ·rw [if_pos h6,if_pos h6];exact h.ent k j (Nat.le_refl _) hk h3 h4
   ·rw [if_neg h6,if_neg h6];exact h.ent i j h1 h2 h3 h4
 ·rw [h.last]
  refine dt_congr fun a b ha hb=>?_
  show X (ps.getD a 0) b=X ((Go.Proofs.Ytgekkehpljbklaa.swp ps p k).getD a 0) b
  rw [hg,if_neg (by omega),if_neg (by omega)]
 ·have h1:=(dt_alt n).swap (pr X ps) hp hk hne
  have e3:dt n (pr X (Go.Proofs.Ytgekkehpljbklaa.swp ps p k))=dt n (srw (srw (pr X ps) p (pr X ps k)) k (pr X ps p)):=dt_congr fun a b ha hb=>by
   show X ((Go.Proofs.Ytgekkehpljbklaa.swp ps p k).getD a 0) b=_
   rw [hg]
   unfold srw
   by_cases h2:a=k
   ·rw [if_pos h2,if_pos h2];rfl
   ·rw [if_neg h2,if_neg h2]
    by_cases h3:a=p
    ·rw [if_pos h3,if_pos h3];rfl
    ·rw [if_neg h3,if_neg h3];rfl
  rw [e3,h1,h.sgn]
  cases tu <;> simp
def Mid (n k:Nat) (P:Mx) (ps:List Nat) (Z:Mx) (i j:Nat):Prop:=∀a b,k≤a→a<n→k≤b→b<n→(b=k→i≤a∨a=k)→
 Z (ps.getD a 0) b=if k<a∧k<b∧(a<i∨a=i∧b<j) then bm P (k+1) a b else bm P k a b
theorem Mid.start {n k:Nat}{X Z:Mx}{ps:List Nat}{tu:Bool}{z:Int}(h:Inv n X k ps Z tu z):Mid n k (pr X ps) ps Z (k+1) (k+1):=fun a b h1 h2 h3 h4 _=>by
 rw [h.ent a b h1 h2 h3 h4,if_neg (by omega)]
theorem Mid.next {n k i j:Nat}{P Z:Mx}{ps:List Nat}(h:Mid n k P ps Z i j) (hp:Per n ps) (hi:k<i) (hin:i<n) (hj:k<j) (hjn:j<n){v:Int}(hv:v=bm P (k+1) i j):Mid n k P ps (ent Z (ps.getD i 0) j v) i (j+1):=fun a b h1 h2 h3 h4 h5=>by
 unfold ent
 by_cases e:a=i∧b=j
 ·obtain⟨rfl,rfl⟩:=e
  rw [if_pos ⟨rfl,rfl⟩,if_pos (by omega)];exact hv
 ·rw [if_neg (fun q=>e ⟨hp.inj a i h2 hin q.1,q.2⟩),h a b h1 h2 h3 h4 h5]
  by_cases c:k<a∧k<b∧(a<i∨a=i∧b<j)
  ·rw [if_pos c,if_pos (by omega)]
  ·rw [if_neg c,if_neg (by omega)]
theorem Mid.row {n k i:Nat}{P Z:Mx}{ps:List Nat}(h:Mid n k P ps Z i n) (hp:Per n ps) (hi:k<i) (hin:i<n) (v:Int):Mid n k P ps (ent Z (ps.getD i 0) k v) (i+1) (k+1):=fun a b h1 h2 h3 h4 h5=>by
 unfold ent
 by_cases e:a=i∧b=k
 ·obtain⟨rfl,rfl⟩:=e
  rcases h5 rfl with h6 | h6 <;> omega
 ·rw [if_neg (fun q=>e ⟨hp.inj a i h2 hin q.1,q.2⟩),h a b h1 h2 h3 h4 (fun q=>by rcases h5 q with h6 | h6 <;> omega)]
  by_cases c:k<a∧k<b∧(a<i∨a=i∧b<n)
  ·rw [if_pos c,if_pos (by omega)]
  ·rw [if_neg c,if_neg (by omega)]
theorem Mid.old {n k i j a b:Nat}{P Z:Mx}{ps:List Nat}(h:Mid n k P ps Z i j) (h1:k≤a) (h2:a<n) (h3:k≤b) (h4:b<n) (hc:a=k∨i<a∨a=i∧(b=k∨j≤b)):Z (ps.getD a 0) b=bm P k a b:=by
 rw [h a b h1 h2 h3 h4 (fun _=>by omega),if_neg (by omega)]
theorem Mid.quot {n k i j:Nat}{X Z:Mx}{ps:List Nat}{z:Int}(h:Mid n k (pr X ps) ps Z i j) (hz:z=dt k (pr X ps)) (hz0:z≠0) (hD:Z (ps.getD k 0) k≠0) (hi:k<i) (hin:i<n) (hj:k<j) (hjn:j<n){hd:Int}(hh:hd=bm (pr X ps) k i k):
  Z (ps.getD k 0) k*Z (ps.getD i 0) j-hd*Z (ps.getD k 0) j=z*bm (pr X ps) (k+1) i j∧(Z (ps.getD k 0) k*Z (ps.getD i 0) j-hd*Z (ps.getD k 0) j).tdiv z=bm (pr X ps) (k+1) i j:=by
 have e1:=h.old (a:=k) (b:=k) (Nat.le_refl _) (by omega) (Nat.le_refl _) (by omega) (Or.inl rfl)
 have e2:=h.old (a:=k) (b:=j) (Nat.le_refl _) (by omega) (by omega) hjn (Or.inl rfl)
 have e3:=h.old (a:=i) (b:=j) (by omega) hin (by omega) hjn (Or.inr (Or.inr ⟨rfl,Or.inr (Nat.le_refl _)⟩))
 rw [e1] at hD
 have e4:=bm_step (pr X ps) i j hD
 rw [e1,e2,e3,hh,e4,←hz]
 exact⟨rfl,Int.mul_tdiv_cancel_left _ hz0⟩
theorem Inv.next {n k:Nat}{X Z0 Z:Mx}{ps:List Nat}{tu:Bool}{z:Int}(h:Inv n X k ps Z0 tu z) (hk:k<n) (hM:Mid n k (pr X ps) ps Z n (k+1)) (hD:Z (ps.getD k 0) k≠0):Inv n X (k+1) ps Z tu (Z (ps.getD k 0) k):=by
 have e1:=hM.old (a:=k) (b:=k) (Nat.le_refl _) (by omega) (Nat.le_refl _) (by omega) (Or.inl rfl)
 refine⟨h.per,fun i j h1 h2 h3 h4=>?_,by rw [e1,bm_self],hD,h.sgn⟩
 rw [hM i j (by omega) h2 (by omega) h4 (fun e=>by omega),if_pos (by omega)]
theorem Inv.none {n k:Nat}{X Z:Mx}{ps:List Nat}{tu:Bool}{z:Int}(h:Inv n X k ps Z tu z) (hk:k<n) (h0:∀i,k≤i→i<n→Z (ps.getD i 0) k=0):dt n X=0:=by
 have h1:=bm_none (pr X ps) hk (by rw [←h.last];exact h.ne) (fun i h1 h2=>by rw [←h.ent i k h1 h2 (Nat.le_refl _) hk];exact h0 i h1 h2)
 rw [h.sgn] at h1
 cases tu
 ·simpa using h1
 ·have:(-1:Int)*dt n X=0:=by simpa using h1
  omega
theorem Inv.full {n:Nat}{X Z:Mx}{ps:List Nat}{tu:Bool}{z:Int}(h:Inv n X n ps Z tu z):dt n X=if tu then-z else z:=by
 have h1:=h.sgn
 rw [←h.last] at h1
 cases tu
 ·have:z=1*dt n X:=by simpa using h1
  rw [if_neg (by decide)];omega
 ·have:z=(-1:Int)*dt n X:=by simpa using h1
  rw [if_pos rfl];omega
theorem Inv.start {n:Nat}{X Z:Mx}(hZ:∀i j,i<n→j<n→Z i j=X i j):Inv n X 0 (List.range n) Z false 1:=by
 have hg:∀i,i<n→(List.range n).getD i 0=i:=fun i hi=>by simp [List.getD_eq_getElem?_getD,hi]
 refine⟨⟨List.length_range,fun i hi=>by rw [hg i hi];exact hi,fun i j hi hj e=>by rw [hg i hi,hg j hj] at e;exact e⟩,fun i j _ hi _ hj=>?_,rfl,by decide,?_⟩
 ·rw [hg i hi,hZ i j hi hj,bm_0]
  show _=X ((List.range n).getD i 0) j
  rw [hg i hi]
 ·rw [if_neg (by decide),Int.one_mul]
  exact dt_congr fun i j hi hj=>by show X ((List.range n).getD i 0) j=_;rw [hg i hi]
theorem pr_ln {n:Nat}{X:Mx}{ps:List Nat}(h:Per n ps){K:Nat}(hX:∀i j,i<n→j<n→ln (X i j)≤K):∀i j,i<n→j<n→ln (pr X ps i j)≤K:=fun i _ hi hj=>hX _ _ (h.lt i hi) hj
end Go.Proofs.Ytgekkehpljbklaa

namespace Go.Proofs.Ytgekkehpljbklaa
structure Stp where
 k:Int
 i:Int
 j:Int
 f:Int
def insd (n:Nat) (i:Int):Prop:=0≤i∧i<(n:Int)
instance (n:Nat) (i:Int):Decidable (insd n i):=inferInstanceAs (Decidable (_∧_))
def Stp.fit (n:Nat) (s:Stp):Prop:=(s.k=1∧insd n s.i∧insd n s.j)∨(s.k=2∧insd n s.i)∨(s.k=3∧insd n s.i∧insd n s.j∧s.i≠s.j)
instance (n:Nat) (s:Stp):Decidable (s.fit n):=inferInstanceAs (Decidable (_∨_∨_))
def stp (s:Stp) (A:Mx):Mx:=fun a b=>
 if s.k=1 then (if a=s.j.toNat then A s.i.toNat b else if a=s.i.toNat then A s.j.toNat b else A a b)
 else if a=s.i.toNat then (if s.k=2 then-A a b else s.f*A s.j.toNat b+A a b) else A a b
def sgs (s:Stp):Int:=if s.k=2∨(s.k=1∧s.i≠s.j) then-1 else 1
theorem sgs_2 {s:Stp}(h:s.k=2):sgs s= -1:=if_pos (Or.inl h)
theorem sgs_1 {s:Stp}(h:s.k=1) (hij:s.i≠s.j):sgs s= -1:=if_pos (Or.inr ⟨h,hij⟩)
theorem sgs_e {s:Stp}(h:¬s.k=2) (h1:¬s.k=1∨s.i=s.j):sgs s=1:=if_neg (fun q=>q.elim h (fun⟨a,b⟩=>h1.elim (fun c=>c a) (fun c=>b c)))
theorem insd_nat {n:Nat}{i:Int}(h:insd n i):∃a:Nat,i=a∧a<n:=⟨i.toNat,by have:=h.1;omega,by have:=h.1;have:=h.2;omega⟩
theorem dt_stp {n:Nat}{s:Stp}(A:Mx) (h:s.fit n):dt n (stp s A)=sgs s*dt n A:=by
 obtain⟨k,i,j,f⟩:=s
 rcases h with⟨hk,hi,hj⟩ | ⟨hk,hi⟩ | ⟨hk,hi,hj,hne⟩
 ·simp only at hk;subst hk
  obtain⟨a,rfl,ha⟩:=insd_nat hi
  obtain⟨b,rfl,hb⟩:=insd_nat hj
  by_cases e:a=b
  ·subst e
   rw [show sgs ⟨1,(a:Int),(a:Int),f⟩=1 by simp [sgs],Int.one_mul]
   refine dt_congr fun r c _ _=>?_
   simp only [stp,Int.toNat_natCast,if_true]
   split
   ·next h=>rw [h]
   ·rfl
  ·rw [show sgs ⟨1,(a:Int),(b:Int),f⟩= -1 by simp [sgs];omega]
   have h2:=(dt_alt n).swap A ha hb e
   rw [show (-1:Int)*dt n A= -dt n A by omega,←h2]
   refine dt_congr fun r c _ _=>?_
   simp only [stp,Int.toNat_natCast,if_true,srw]
 ·simp only at hk;subst hk
  obtain⟨a,rfl,ha⟩:=insd_nat hi
  rw [show sgs ⟨2,(a:Int),j,f⟩= -1 by simp [sgs]]
  have h1:=(dt_alt n).lin A a (-1) (A a) (fun _=>0) ha
  rw [(dt_alt n).row0 A ha,srw_self,Int.add_zero] at h1
  rw [←h1]
  refine dt_congr fun r c _ _=>?_
  simp only [stp,srw,Int.toNat_natCast]
  rw [if_neg (by decide)]
  by_cases e:r=a
  ·subst e;rw [if_pos rfl,if_pos rfl,if_pos trivial];omega
  ·rw [if_neg e,if_neg e]
 ·simp only at hk;subst hk
  simp only at hne
  obtain⟨a,rfl,ha⟩:=insd_nat hi
  obtain⟨b,rfl,hb⟩:=insd_nat hj
  have hab:a≠b:=fun e=>hne (by rw [e])
  rw [show sgs ⟨3,(a:Int),(b:Int),f⟩=1 by simp [sgs],Int.one_mul]
  have h1:=(dt_alt n).lin A a f (A b) (A a) ha
  have h2:dt n (srw A a (A b))=0:=by
   rcases Nat.lt_or_ge a b with h | h
   ·exact (dt_alt n).alt _ a b h hb fun c _=>by rw [srw_at,srw_ne A (A b) c (Ne.symm hab)]
   ·exact (dt_alt n).alt _ b a (by omega) ha fun c _=>by rw [srw_at,srw_ne A (A b) c (Ne.symm hab)]
  rw [h2,srw_self,Int.mul_zero,Int.zero_add] at h1
  rw [←h1]
  refine dt_congr fun r c _ _=>?_
  simp only [stp,srw,Int.toNat_natCast]
  rw [if_neg (by decide)]
  by_cases e:r=a
  ·subst e;rw [if_pos rfl,if_pos rfl,if_neg (by decide)]
  ·rw [if_neg e,if_neg e]
def stps:List Stp→Mx→Mx
 | [],A=>A
 | s::l,A=>stps l (stp s A)
def sgl:List Stp→Int
 | []=>1
 | s::l=>sgs s*sgl l
theorem dt_stps {n:Nat}:∀(l:List Stp) (A:Mx),(∀s∈l,s.fit n)→dt n (stps l A)=sgl l*dt n A
 | [],A,_=>by simp [stps,sgl]
 | s::l,A,h=>by
  simp only [stps,sgl]
  rw [dt_stps l _ fun x hx=>h x (by simp [hx]),dt_stp A (h s (by simp)),←Int.mul_assoc,Int.mul_comm (sgl l)]
theorem stps_app:∀(l:List Stp) (s:Stp) (A:Mx),stps (l++ [s]) A=stp s (stps l A)
 | [],_,_=>rfl
 | x::l,s,A=>by simp only [List.cons_append,stps];exact stps_app l s _
theorem sgl_app:∀(l:List Stp) (s:Stp),sgl (l++ [s])=sgs s*sgl l
 | [],_=>rfl
 | x::l,s=>by simp only [List.cons_append,sgl];rw [sgl_app l s,←Int.mul_assoc,←Int.mul_assoc,Int.mul_comm (sgs x)]
def Stp.z:Stp:=⟨0,0,0,0⟩
theorem take_succD {α:Type}{l:List α}{i:Nat}(d:α) (h:i<l.length):l.take (i+1)=l.take i++ [l.getD i d]:=by
 rw [List.take_add_one,List.getElem?_eq_getElem h,List.getD_eq_getElem?_getD,List.getElem?_eq_getElem h];rfl
theorem stps_succ {l:List Stp}{i:Nat}(A:Mx) (h:i<l.length):stps (l.take (i+1)) A=stp (l.getD i Stp.z) (stps (l.take i) A):=by rw [take_succD Stp.z h,stps_app]
theorem sgl_succ {l:List Stp}{i:Nat}(h:i<l.length):sgl (l.take (i+1))=sgs (l.getD i Stp.z)*sgl (l.take i):=by rw [take_succD Stp.z h,sgl_app]
theorem sgs_or (s:Stp):sgs s=1∨sgs s= -1:=by unfold sgs;split <;> simp
theorem sgl_or:∀l:List Stp,sgl l=1∨sgl l= -1
 | []=>Or.inl rfl
 | s::l=>by
  simp only [sgl]
  rcases sgs_or s with h | h <;> rcases sgl_or l with h2 | h2 <;> rw [h,h2] <;> decide
theorem stp_ln {n c K m:Nat}{s:Stp}{A:Mx}(h:s.fit n) (hA:∀a b,a<n→b<c→ln (A a b)≤K) (hf:s.k=3→ln s.f≤m):∀a b,a<n→b<c→ln (stp s A a b)≤K+(m+1):=fun a b ha hb=>by
 unfold stp
 rcases h with⟨hk,hi,hj⟩ | ⟨hk,hi⟩ | ⟨hk,hi,hj,hne⟩
 ·rw [if_pos hk]
  obtain⟨x,hx,hx2⟩:=insd_nat hi
  obtain⟨y,hy,hy2⟩:=insd_nat hj
  rw [hx,hy,Int.toNat_natCast,Int.toNat_natCast]
  split
  ·have:=hA x b hx2 hb;omega
  ·split
   ·have:=hA y b hy2 hb;omega
   ·have:=hA a b ha hb;omega
 ·rw [if_neg (by omega)]
  split
  ·(try rw [if_pos hk]);rw [ln_neg];have:=hA a b ha hb;omega
  ·have:=hA a b ha hb;omega
 ·rw [if_neg (by omega)]
  obtain⟨y,hy,hy2⟩:=insd_nat hj
  split
  ·rw [if_neg (by omega),hy,Int.toNat_natCast]
   exact Nat.le_trans (ln_add (ln_mul (hf hk) (hA y b hy2 hb)) (hA a b ha hb)) (by omega)
  ·have:=hA a b ha hb;omega
theorem stp_congr {n:Nat}{s:Stp}{A B:Mx}(h:s.fit n) (hAB:∀a b,a<n→b<n→A a b=B a b):∀a b,a<n→b<n→stp s A a b=stp s B a b:=fun a b ha hb=>by
 unfold stp
 rcases h with⟨hk,hi,hj⟩ | ⟨hk,hi⟩ | ⟨hk,hi,hj,hne⟩
 ·rw [if_pos hk,if_pos hk]
  obtain⟨x,hx,hx2⟩:=insd_nat hi
  obtain⟨y,hy,hy2⟩:=insd_nat hj
  rw [hx,hy,Int.toNat_natCast,Int.toNat_natCast,hAB x b hx2 hb,hAB y b hy2 hb,hAB a b ha hb]
 ·rw [hAB a b ha hb,if_pos hk,if_pos hk]
  simp only [show¬s.k=1 by omega,if_false]
 ·obtain⟨y,hy,hy2⟩:=insd_nat hj
  rw [hy,Int.toNat_natCast,hAB y b hy2 hb,hAB a b ha hb]
  simp only [show¬s.k=1 by omega,if_false]
theorem stps_ln {n K:Nat}{ss:List Stp}{ms:List Nat}{A:Mx}(hA:∀a b,a<n→b<n→ln (A a b)≤K) (hl:ms.length=ss.length) (hf:∀i,i<ss.length→(ss.getD i Stp.z).fit n) (hm:∀i,i<ss.length→ln (ss.getD i Stp.z).f≤ms.getD i 0):
  ∀i,i≤ss.length→∀a b,a<n→b<n→ln (stps (ss.take i) A a b)≤K+((ms.take i).sum+i):=by
 intro i
 induction i with
 | zero=>intro _ a b ha hb;exact Nat.le_trans (hA a b ha hb) (Nat.le_add_right _ _)
 | succ i ih=>
  intro hi a b ha hb
  rw [stps_succ _ hi,take_succD 0 (show i<ms.length by omega),List.sum_append,List.sum_cons,List.sum_nil]
  exact Nat.le_trans (stp_ln (m:=ms.getD i 0) (hf i hi) (ih (by omega)) (fun _=>hm i hi) a b ha hb) (by omega)
theorem take_sum_le:∀(ms:List Nat) (i:Nat),(ms.take i).sum≤ms.sum
 | [],i=>by simp
 | m::ms,0=>by simp
 | m::ms,i+1=>by simp only [List.take_succ_cons,List.sum_cons];have:=take_sum_le ms i;omega
theorem pr_range {n:Nat}(X:Mx) (a b:Nat) (ha:a<n):pr X (List.range n) a b=X a b:=by
 unfold pr;rw [List.getD_eq_getElem?_getD,List.getElem?_range ha];rfl
theorem pr_swap {n:Nat}{Z:Mx}{ps:List Nat}(hp:Per n ps){s:Stp}(hk:s.k=1){i j:Nat}(hi:s.i=i) (hj:s.j=j) (hi2:i<n) (hj2:j<n) (a b:Nat):pr Z (swp ps i j) a b=stp s (pr Z ps) a b:=by
 unfold pr stp
 rw [swp_get hp.len hi2 hj2,if_pos hk,hi,hj,Int.toNat_natCast,Int.toNat_natCast]
 split
 ·rfl
 ·split <;> rfl
theorem pr_neg {n:Nat}{Z Y:Mx}{ps:List Nat}{s:Stp}(hk:s.k=2){i:Nat}(hi:s.i=i) (h:∀a b,a<n→b<n→Y (ps.getD a 0) b=if a=i∧b<n then-Z (ps.getD i 0) b else Z (ps.getD a 0) b) (a b:Nat) (ha:a<n) (hb:b<n):pr Y ps a b=stp s (pr Z ps) a b:=by
 unfold pr stp
 rw [h a b ha hb,if_neg (show¬s.k=1 by omega),hi,Int.toNat_natCast]
 by_cases e:a=i
 ·subst e;rw [if_pos ⟨rfl,hb⟩,if_pos rfl,if_pos hk]
 ·rw [if_neg (fun q=>e q.1),if_neg e]
theorem pr_add {n:Nat}{Z Y:Mx}{ps:List Nat}{s:Stp}(hk:s.k=3){i j:Nat}(hi:s.i=i) (hj:s.j=j) (h:∀a b,a<n→b<n→Y (ps.getD a 0) b=if a=i∧b<n then s.f*Z (ps.getD j 0) b+Z (ps.getD i 0) b else Z (ps.getD a 0) b) (a b:Nat) (ha:a<n) (hb:b<n):pr Y ps a b=stp s (pr Z ps) a b:=by
 unfold pr stp
 rw [h a b ha hb,if_neg (show¬s.k=1 by omega),hi,hj,Int.toNat_natCast,Int.toNat_natCast]
 by_cases e:a=i
 ·subst e;rw [if_pos ⟨rfl,hb⟩,if_pos rfl,if_neg (show¬s.k=2 by omega)]
 ·rw [if_neg (fun q=>e q.1),if_neg e]
theorem ent_row {n:Nat}{Z Y:Mx}{ps:List Nat}(hp:Per n ps){i c:Nat}(hi:i<n){F:Nat→Int}(h:∀a b,a<n→b<n→Y (ps.getD a 0) b=if a=i∧b<c then F b else Z (ps.getD a 0) b){x:Int}(hx:x=F c):
  ∀a b,a<n→b<n→(fun r k=>if r=ps.getD i 0∧k=c then x else Y r k) (ps.getD a 0) b=if a=i∧b<c+1 then F b else Z (ps.getD a 0) b:=fun a b ha hb=>by
 simp only
 by_cases e:a=i
 ·subst e
  by_cases e2:b=c
  ·subst e2;rw [if_pos ⟨rfl,rfl⟩,if_pos ⟨rfl,by omega⟩,hx]
  ·rw [if_neg (fun q=>e2 q.2),h a b ha hb]
   by_cases e3:b<c
   ·rw [if_pos ⟨rfl,e3⟩,if_pos ⟨rfl,by omega⟩]
   ·rw [if_neg (fun q=>e3 q.2),if_neg (fun q=>e3 (by omega))]
 ·rw [if_neg (fun q=>e (hp.inj a i ha hi q.1)),h a b ha hb,if_neg (fun q=>e q.1),if_neg (fun q=>e q.1)]
end Go.Proofs.Ytgekkehpljbklaa

namespace Go.Proofs.Ytgekkehpljbklaa
open Go.RowKit
def mk (d:Nat→Int) (n:Nat) (X:Mx) (t:Nat):Mx:=fun i j=>cv d (fun l=>mp n X l i j) t
set_option maxHeartbeats 8000000 in
set_option maxRecDepth 20000 in
theorem g_brs_stepI {w:World}{lb n g:Nat}{RA NA:Option Addr}{rcap ncap:Nat}{ra:Nat→Option Addr}{rc:Nat→Nat}{ps:List Nat}{ns:List Int}{Z X:Mx}{tu:Bool}{z:Int}{k:Nat}{sl:Bool}{Al:Option Addr}{nl cl:Nat}(hlb:lb≤w.heap.size) (hA:Apt lb n g RA NA ra) (hB:Bk w g 75 [.slice RA n rcap,.slice NA n ncap,.bool tu,.bool sl,.slice Al nl cl,.int .i64 ((k:Nat):Int)]) (hz:Zr w 0 sl Al nl cl z) (hR:Own w lb 22 1 RA n rcap (ps.map (rwv ra rc n))) (hN:Own w lb 3 1 NA n ncap (ns.map I64)) (hC:Rcs 17179869184 lb n n ra rc w Z) (hn:n≤64) (hX:∀i j,i<n→j<n→ln (X i j)≤1048576) (hk:k<n) (hI0:Inv n X k ps Z tu z):
    Calls Try.prog 44 #[.pointer (some ⟨g,0,none⟩),.int .i64 ((k:Nat):Int)] w (fun e w'=>Bl lb w w'∧((e= .returned (.bool false)∧∀i,k≤i→i<n→Z (ps.getD i 0) k=0)∨∃qs Y tu' z',e= .returned (.bool true)∧Fld lb n g RA NA rcap ncap ra rc qs Y tu' z' (k+1) w'∧Inv n X (k+1) qs Y tu' z')):=by
 have hcap:=hR.rv.le
 have hncap:=hN.rv.le
 have hLz:ln z≤17179869184:=by rw [hI0.last];exact Nat.le_trans (ln_dt k _ fun a b ha hb=>pr_ln hI0.per hX a b (by omega) (by omega)) (by have:=Nat.mul_le_mul (show k≤64 by omega) (show 1048576+k≤1048640 by omega);omega)
 refine sx_enter Try.func44 rfl (n:=189) rfl (bq rfl) (args:= [.pointer (some ⟨g,0,none⟩),.int .i64 ((k:Nat):Int)]) ?_
 have hlt_g:=hB.lt
 refine cw_keep [(0,.pointer (some ⟨g,0,none⟩)),(1,.int .i64 ((k:Nat):Int))] ⟨rfl,rfl,trivial⟩ (sr (mv 1 rfl (ne_ (sr (mv 1 rfl (pf g 0 rfl (by kernel_rfl) (pf g 5 rfl (by kernel_rfl) (wl_load rfl rfl (load_cell cellInt hB rfl) (by decide) (mv 1 rfl (ne_ (sr (mv 2 rfl (wl_nil ?_)))))))))))))
 refine eo_then (cw_seq (cw_block ?_))
 refine cw_loop (T:=World×Nat) (fun⟨wp,p⟩=> [(0,.pointer (some ⟨g,0,none⟩)),(1,.int .i64 ((k:Nat):Int)),(4,.bool false),(5,.int .i64 ((k:Nat):Int)),(6,.int .i64 ((p:Nat):Int)),(13,.pointer (some ⟨g,0,none⟩)),(14,.pointer (some ⟨g,0,none⟩)),(15,.pointer (some ⟨g,5,none⟩)),(16,.int .i64 ((k:Nat):Int)),(17,.int .i64 ((k:Nat):Int))]) (fun⟨wp,p⟩=>wp) (fun⟨wp,p⟩=>(Bl lb w wp)∧(p≤n)∧(Bk wp g 75 [.slice RA n rcap,.slice NA n ncap,.bool tu,.bool sl,.slice Al nl cl,.int .i64 ((k:Nat):Int)])∧(Zr wp 0 sl Al nl cl (z))∧(Own wp lb 22 1 RA n rcap (ps.map (rwv ra rc n)))∧(Own wp lb 3 1 NA n ncap (ns.map I64))∧(Rcs 17179869184 lb n n ra rc wp Z)∧(k≤p)∧(∀i,k≤i→i<p→Z (ps.getD i 0) k=0)) (fun⟨wp,p⟩=>n-p)
  (⟨w,k⟩:World×Nat) ⟨(Bl.refl hlb),(by omega),hB,hz,hR,hN,hC,(Nat.le_refl k),(fun i h1 h2=>by omega)⟩ rfl ⟨rfl,rfl,rfl,rfl,rfl,rfl,rfl,rfl,rfl,rfl,trivial⟩ ?_
 rintro⟨wp,p⟩ ⟨hw1,hi_p,b_g,z_g_1,o_RAwp,o_NAwp,rc_wp,hkp,hz0⟩
 refine cw_re [(0,.pointer (some ⟨g,0,none⟩)),(1,.int .i64 ((k:Nat):Int)),(4,.bool false),(5,.int .i64 ((k:Nat):Int)),(6,.int .i64 ((p:Nat):Int)),(13,.pointer (some ⟨g,0,none⟩)),(14,.pointer (some ⟨g,0,none⟩)),(15,.pointer (some ⟨g,5,none⟩)),(16,.int .i64 ((k:Nat):Int)),(17,.int .i64 ((k:Nat):Int))] wp rfl ⟨rfl,rfl,rfl,rfl,rfl,rfl,rfl,rfl,rfl,rfl,trivial⟩ (cw_seq (cw_seq ?_))
 by_cases hpn:p<n
 · 
  by_cases hzp:Z (ps.getD p 0) k=0
  · 
   refine cw_region (mv 2 rfl (pf g 0 rfl (by kernel_rfl) (pf g 0 rfl (by kernel_rfl) (wl_load rfl rfl (load_cell cellRows b_g rfl) (by decide) (pu (v:= .int .i64 ((n:Nat):Int)) rfl (by kernel_rfl) (wl_cmp rfl rfl rfl true (cb_lt_t (a:=p) (b:=n) rfl rfl (by omega)) (by decide) (mv 2 rfl (pf g 0 rfl (by kernel_rfl) (pf g 0 rfl (by kernel_rfl) (wl_load rfl rfl (load_cell cellRows b_g rfl) (by decide) (mv 1 rfl ?_)))))))))))
   obtain⟨pz1,hpz1,hcz1⟩:=(o_RAwp).rowAt (i:=p) (by omega)
   refine wl_idx rfl rfl rfl unRows szInts p rfl (by omega) pz1 hpz1 (by decide) (wl_load rfl rfl (load_cell1 cellInts hcz1) (by decide) (mv 1 rfl ?_))
   obtain⟨pz2,sz2,Bz2,nz2,cz2,hpz2,ldz2,hKz2,zz2⟩:=(rc_wp).at (hI0.per.lt p (by omega)) (show k<n by omega)
   refine wl_idx rfl rfl rfl elemI aggInt.size k rfl (by omega) pz2 hpz2 (by decide) (wl_load rfl rfl (ldz2 _ (Ext.refl _) _ _ aggInt) (by decide) (wl_call rfl rfl (vs:= [.agg #[.bool sz2,.slice Bz2 nz2 cz2]]) (by kernel_rfl) (by decide) (g_zint_Sign zz2.zi (zz2.le (Nat.le_trans (zz2.ln_le hKz2) (by decide)))) ?_))
   rintro _ v3 ⟨xr5,rfl,r5,e4⟩
   refine ret_intro ?_
   have hw2:Bl lb w v3:=hw1.ext e4
   obtain rfl:=r5
   refine wl_cmp rfl rfl rfl true (scmp_eq_t hzp) (by decide) (pu (v:= .bool true) rfl (by kernel_rfl) (ne_ (cw_true rfl (cw_skip (eo_then (cw_block (cw_region (mv 1 rfl (wl_ar rfl rfl rfl ((p+1:Nat):Int) (ai_add (a:=p) (b:=1) rfl rfl (by omega)) (by decide) (mv 1 rfl (wl_nil (eo_block_normal (eo_round (⟨v3,p+1⟩:World×Nat) ⟨hw2,(by omega),(b_g.ext e4),(z_g_1.ext e4),(o_RAwp.ext e4),(o_NAwp.ext e4),(rc_wp.ext e4),(by omega),(fun i h1 h2=>if h:i<p then hz0 i h1 h else (show i=p by omega)▸hzp)⟩ (show n-(p+1)<n-p by omega) rfl ⟨rfl,rfl,rfl,rfl,rfl,rfl,rfl,rfl,rfl,rfl,trivial⟩)))))))))))))
  · 
   refine cw_region (mv 2 rfl (pf g 0 rfl (by kernel_rfl) (pf g 0 rfl (by kernel_rfl) (wl_load rfl rfl (load_cell cellRows b_g rfl) (by decide) (pu (v:= .int .i64 ((n:Nat):Int)) rfl (by kernel_rfl) (wl_cmp rfl rfl rfl true (cb_lt_t (a:=p) (b:=n) rfl rfl (by omega)) (by decide) (mv 2 rfl (pf g 0 rfl (by kernel_rfl) (pf g 0 rfl (by kernel_rfl) (wl_load rfl rfl (load_cell cellRows b_g rfl) (by decide) (mv 1 rfl ?_)))))))))))
   obtain⟨pz6,hpz6,hcz6⟩:=(o_RAwp).rowAt (i:=p) (by omega)
   refine wl_idx rfl rfl rfl unRows szInts p rfl (by omega) pz6 hpz6 (by decide) (wl_load rfl rfl (load_cell1 cellInts hcz6) (by decide) (mv 1 rfl ?_))
   obtain⟨pz7,sz7,Bz7,nz7,cz7,hpz7,ldz7,hKz7,zz7⟩:=(rc_wp).at (hI0.per.lt p (by omega)) (show k<n by omega)
   refine wl_idx rfl rfl rfl elemI aggInt.size k rfl (by omega) pz7 hpz7 (by decide) (wl_load rfl rfl (ldz7 _ (Ext.refl _) _ _ aggInt) (by decide) (wl_call rfl rfl (vs:= [.agg #[.bool sz7,.slice Bz7 nz7 cz7]]) (by kernel_rfl) (by decide) (g_zint_Sign zz7.zi (zz7.le (Nat.le_trans (zz7.ln_le hKz7) (by decide)))) ?_))
   rintro _ v8 ⟨xr10,rfl,r10,e9⟩
   refine ret_intro ?_
   have hw2:Bl lb w v8:=hw1.ext e9
   obtain rfl:=r10
   refine wl_cmp rfl rfl rfl false (scmp_eq_f hzp) (by decide) (pu (v:= .bool false) rfl (by kernel_rfl) (ne_ (cw_false rfl (cw_exit (eo_thenX (eo_loopX (eo_block_here (eo_then (cw_seq (sr (mv 2 rfl (pf g 0 rfl (by kernel_rfl) (pf g 0 rfl (by kernel_rfl) ?_)))))))))))))
   refine wl_load rfl rfl (load_cell cellRows (b_g.ext e9) rfl) (by decide) (pu (v:= .int .i64 ((n:Nat):Int)) rfl (by kernel_rfl) (wl_cmp rfl rfl rfl false (cb_eq_f (a:=p) (b:=n) rfl rfl (by omega)) (by decide) (ne_ (cw_false rfl (cw_skip (eo_then (cw_seq (cw_seq ?_))))))))
   by_cases hpk:p≠k
   · 
    refine cw_region (mv 2 rfl (wl_cmp rfl rfl rfl true (cb_ne_t (a:=p) (b:=k) rfl rfl (by omega)) (by decide) (ne_ (cw_true rfl (cw_seq (cw_keep [(0,.pointer (some ⟨g,0,none⟩)),(1,.int .i64 ((k:Nat):Int)),(4,.bool false),(5,.int .i64 ((k:Nat):Int)),(6,.int .i64 ((p:Nat):Int)),(13,.pointer (some ⟨g,0,none⟩)),(14,.pointer (some ⟨g,0,none⟩)),(15,.pointer (some ⟨g,5,none⟩)),(16,.int .i64 ((k:Nat):Int)),(17,.int .i64 ((k:Nat):Int)),(18,.int .i64 ((p:Nat):Int)),(19,.pointer (some ⟨g,0,none⟩)),(20,.pointer (some ⟨g,0,none⟩)),(21,.pointer (some ⟨g,0,none⟩)),(22,.slice RA n rcap),(23,.int .i64 ((n:Nat):Int)),(24,.bool true),(25,.bool true),(26,.pointer (some ⟨g,0,none⟩)),(27,.pointer (some ⟨g,0,none⟩)),(28,.pointer (some ⟨g,0,none⟩)),(29,.slice RA n rcap),(30,.int .i64 ((p:Nat):Int)),(31,.pointer (some pz6)),(32,.slice (ra (ps.getD p 0)) n (rc (ps.getD p 0))),(33,.int .i64 ((k:Nat):Int)),(34,.pointer (some pz7)),(35,.agg #[.bool sz7,.slice Bz7 nz7 cz7]),(36,.int .i64 (scmp (Z (ps.getD p 0) k) 0)),(37,.bool false),(38,.bool false),(41,.int .i64 ((p:Nat):Int)),(42,.pointer (some ⟨g,0,none⟩)),(43,.pointer (some ⟨g,0,none⟩)),(44,.pointer (some ⟨g,0,none⟩)),(45,.slice RA n rcap),(46,.int .i64 ((n:Nat):Int)),(47,.bool false),(48,.int .i64 ((p:Nat):Int)),(49,.int .i64 ((k:Nat):Int)),(50,.bool true)] ⟨rfl,rfl,rfl,rfl,rfl,rfl,rfl,rfl,rfl,rfl,rfl,rfl,rfl,rfl,rfl,rfl,rfl,rfl,rfl,rfl,rfl,rfl,rfl,rfl,rfl,rfl,rfl,rfl,rfl,rfl,rfl,rfl,rfl,rfl,rfl,rfl,rfl,rfl,rfl,rfl,rfl,trivial⟩ ?_))))))
    obtain⟨v11,hv,e12⟩:∃v,v=v8.drew∧Ext v8 v:=⟨_,rfl,(Ext.refl _).drew⟩
    have hw3:Bl lb w v11:=hw2.ext e12
    obtain⟨pz13,hpz13,hcz13⟩:=((o_RAwp.ext (e9.trans e12))).rowAt (i:=k) (by omega)
    have lt14:=(o_RAwp.ext (e9.trans e12))
    obtain⟨v15,hr16,own17,uo18⟩:=run_setRow lt14 (by omega) hpz6 (ps.getD k 0)
    have hw4:Bl lb w v15:=hw3.updO uo18 (fun p hp=>(lt14.block p hp).1)
    obtain⟨pz19,hpz19,hcz19⟩:=(own17).rowAt (i:=k) (by omega)
    have lt20:=own17
    obtain⟨v21,hr22,own23,uo24⟩:=run_setRow lt20 (by omega) hpz19 (ps.getD p 0)
    have hw5:Bl lb w v21:=hw4.updO uo24 (fun p hp=>(lt20.block p hp).1)
    refine cw_det mix (w:=v11) [.pointer (some ⟨g,0,none⟩),.pointer (some ⟨g,0,none⟩),.pointer (some ⟨g,0,none⟩),.slice RA n rcap,.int .i64 ((p:Nat):Int),.pointer (some ⟨g,0,none⟩),.pointer (some ⟨g,0,none⟩),.pointer (some ⟨g,0,none⟩),.slice RA n rcap,.int .i64 ((k:Nat):Int),.pointer (some ⟨g,0,none⟩),.pointer (some ⟨g,0,none⟩),.pointer (some ⟨g,0,none⟩),.slice RA n rcap,.int .i64 ((k:Nat):Int),.pointer (some pz13),.slice (ra (ps.getD k 0)) n (rc (ps.getD k 0)),.pointer (some ⟨g,0,none⟩),.pointer (some ⟨g,0,none⟩),.pointer (some ⟨g,0,none⟩),.slice RA n rcap,.int .i64 ((p:Nat):Int),.pointer (some pz6),.slice (ra (ps.getD p 0)) n (rc (ps.getD p 0)),.pointer (some pz6),undef,.pointer (some pz19),undef] [v11,v15,v21] [25,27] [[],[0],[1],[2],[],[],[5],[6],[7],[],[],[10],[11],[12],[],[13,14],[15],[],[17],[18],[19],[],[20,21],[22],[3,4],[16,24],[8,9],[23,26]] [[],[0],[0,1],[0,1,2],[],[],[5],[5,6],[5,6,7],[],[],[10],[10,11],[10,11,12],[],[10,11,12,13,14],[10,11,12,13,14,15],[],[17],[17,18],[17,18,19],[],[17,18,19,20,21],[17,18,19,20,21,22],[0,1,2,3,4,5,6,7,8,10,11,12,13,14,15,16,17,18,19,20,21,22,23],[0,1,2,3,4,5,6,7,8,10,11,12,13,14,15,16,17,18,19,20,21,22,23,24],[0,1,2,3,4,5,6,7,8,9,10,11,12,13,14,15,16,17,18,19,20,21,22,23,24,25],[0,1,2,3,4,5,6,7,8,9,10,11,12,13,14,15,16,17,18,19,20,21,22,23,24,25,26]] [(0,0),(1,0),(2,0),(3,0),(4,0),(5,0),(6,0),(7,0),(8,0),(9,0),(9,1),(10,0),(11,0),(12,0),(13,0),(14,0),(15,0),(16,0),(17,0),(18,0),(19,0),(20,0),(21,0),(22,0),(23,0),(24,0),(25,0),(26,1),(27,1)] rfl hv ?_ ?_
    · 
     refine dobs_val _ rfl rfl rfl rfl rfl (rd_move rfl) (dobs_val _ rfl rfl rfl rfl rfl (rd_pure rfl (by kernel_rfl)) (dobs_val _ rfl rfl rfl rfl rfl (rd_pure rfl (by kernel_rfl)) (dobs_val _ rfl rfl rfl rfl rfl (rd_load rfl (load_cell cellRows (b_g.ext (e9.trans e12)) rfl)) (dobs_val _ rfl rfl rfl rfl rfl (rd_move rfl) (dobs_val _ rfl rfl rfl rfl rfl (rd_move rfl) (dobs_val _ rfl rfl rfl rfl rfl (rd_pure rfl (by kernel_rfl)) (dobs_val _ rfl rfl rfl rfl rfl (rd_pure rfl (by kernel_rfl)) (dobs_val _ rfl rfl rfl rfl rfl (rd_load rfl (load_cell cellRows (b_g.ext (e9.trans e12)) rfl)) (dobs_val _ rfl rfl rfl rfl rfl (rd_move rfl) (dobs_val _ rfl rfl rfl rfl rfl (rd_move rfl) (dobs_val _ rfl rfl rfl rfl rfl (rd_move rfl) (dobs_val _ rfl rfl rfl rfl rfl (rd_pure rfl (by kernel_rfl)) (dobs_val _ rfl rfl rfl rfl rfl (rd_pure rfl (by kernel_rfl)) ?_)))))))))))))
     refine dobs_val _ rfl rfl rfl rfl rfl (rd_load rfl (load_cell cellRows (b_g.ext (e9.trans e12)) rfl)) (dobs_val _ rfl rfl rfl rfl rfl (rd_move rfl) (dobs_val _ rfl rfl rfl rfl rfl (rd_idx rfl rfl unRows szInts k rfl (by omega) pz13 hpz13) (dobs_val _ rfl rfl rfl rfl rfl (rd_load rfl (load_cell1 cellInts hcz13)) (dobs_val _ rfl rfl rfl rfl rfl (rd_move rfl) (dobs_val _ rfl rfl rfl rfl rfl (rd_pure rfl (by kernel_rfl)) (dobs_val _ rfl rfl rfl rfl rfl (rd_pure rfl (by kernel_rfl)) (dobs_val _ rfl rfl rfl rfl rfl (rd_load rfl (load_cell cellRows (b_g.ext (e9.trans e12)) rfl)) (dobs_val _ rfl rfl rfl rfl rfl (rd_move rfl) (dobs_val _ rfl rfl rfl rfl rfl (rd_idx rfl rfl unRows szInts p rfl (by omega) pz6 hpz6) (dobs_val _ rfl rfl rfl rfl rfl (rd_load rfl (load_cell1 cellInts ((e9.trans e12).cell hcz6))) (dobs_val _ rfl rfl rfl rfl rfl (rd_idx rfl rfl unRows szInts p rfl (by omega) pz6 hpz6) (dobs_sto _ rfl rfl rfl rfl rfl (rd_store rfl rfl hr16) (dobs_val _ rfl rfl rfl rfl rfl (rd_idx rfl rfl unRows szInts k rfl (by omega) pz19 hpz19) ?_)))))))))))))
     refine dobs_sto _ rfl rfl rfl rfl rfl (rd_store rfl rfl hr22) ?_
     exact dobs_nil
    clear hv
    refine eo_keep [(0,.pointer (some ⟨g,0,none⟩)),(1,.int .i64 ((k:Nat):Int)),(4,.bool false),(5,.int .i64 ((k:Nat):Int)),(6,.int .i64 ((p:Nat):Int)),(13,.pointer (some ⟨g,0,none⟩)),(14,.pointer (some ⟨g,0,none⟩)),(15,.pointer (some ⟨g,5,none⟩)),(16,.int .i64 ((k:Nat):Int)),(17,.int .i64 ((k:Nat):Int)),(18,.int .i64 ((p:Nat):Int)),(19,.pointer (some ⟨g,0,none⟩)),(20,.pointer (some ⟨g,0,none⟩)),(21,.pointer (some ⟨g,0,none⟩)),(22,.slice RA n rcap),(23,.int .i64 ((n:Nat):Int)),(24,.bool true),(25,.bool true),(26,.pointer (some ⟨g,0,none⟩)),(27,.pointer (some ⟨g,0,none⟩)),(28,.pointer (some ⟨g,0,none⟩)),(29,.slice RA n rcap),(30,.int .i64 ((p:Nat):Int)),(31,.pointer (some pz6)),(32,.slice (ra (ps.getD p 0)) n (rc (ps.getD p 0))),(33,.int .i64 ((k:Nat):Int)),(34,.pointer (some pz7)),(35,.agg #[.bool sz7,.slice Bz7 nz7 cz7]),(36,.int .i64 (scmp (Z (ps.getD p 0) k) 0)),(37,.bool false),(38,.bool false),(41,.int .i64 ((p:Nat):Int)),(42,.pointer (some ⟨g,0,none⟩)),(43,.pointer (some ⟨g,0,none⟩)),(44,.pointer (some ⟨g,0,none⟩)),(45,.slice RA n rcap),(46,.int .i64 ((n:Nat):Int)),(47,.bool false),(48,.int .i64 ((p:Nat):Int)),(49,.int .i64 ((k:Nat):Int)),(50,.bool true),(51,.pointer (some ⟨g,0,none⟩)),(52,.pointer (some ⟨g,0,none⟩)),(53,.pointer (some ⟨g,0,none⟩)),(54,.slice RA n rcap),(55,.int .i64 ((p:Nat):Int)),(56,.pointer (some ⟨g,0,none⟩)),(57,.pointer (some ⟨g,0,none⟩)),(58,.pointer (some ⟨g,0,none⟩)),(59,.slice RA n rcap),(60,.int .i64 ((k:Nat):Int)),(61,.pointer (some ⟨g,0,none⟩)),(62,.pointer (some ⟨g,0,none⟩)),(63,.pointer (some ⟨g,0,none⟩)),(64,.slice RA n rcap),(65,.int .i64 ((k:Nat):Int)),(66,.pointer (some pz13)),(67,.slice (ra (ps.getD k 0)) n (rc (ps.getD k 0))),(68,.pointer (some ⟨g,0,none⟩)),(69,.pointer (some ⟨g,0,none⟩)),(70,.pointer (some ⟨g,0,none⟩)),(71,.slice RA n rcap),(72,.int .i64 ((p:Nat):Int)),(73,.pointer (some pz6)),(74,.slice (ra (ps.getD p 0)) n (rc (ps.getD p 0))),(75,.pointer (some pz6)),(76,.pointer (some pz19))] ⟨rfl,rfl,rfl,rfl,rfl,rfl,rfl,rfl,rfl,rfl,rfl,rfl,rfl,rfl,rfl,rfl,rfl,rfl,rfl,rfl,rfl,rfl,rfl,rfl,rfl,rfl,rfl,rfl,rfl,rfl,rfl,rfl,rfl,rfl,rfl,rfl,rfl,rfl,rfl,rfl,rfl,rfl,rfl,rfl,rfl,rfl,rfl,rfl,rfl,rfl,rfl,rfl,rfl,rfl,rfl,rfl,rfl,rfl,rfl,rfl,rfl,rfl,rfl,rfl,rfl,rfl,rfl,trivial⟩ (eo_then (cw_seq (cw_keep [(0,.pointer (some ⟨g,0,none⟩)),(1,.int .i64 ((k:Nat):Int)),(4,.bool false),(5,.int .i64 ((k:Nat):Int)),(6,.int .i64 ((p:Nat):Int)),(13,.pointer (some ⟨g,0,none⟩)),(14,.pointer (some ⟨g,0,none⟩)),(15,.pointer (some ⟨g,5,none⟩)),(16,.int .i64 ((k:Nat):Int)),(17,.int .i64 ((k:Nat):Int)),(18,.int .i64 ((p:Nat):Int)),(19,.pointer (some ⟨g,0,none⟩)),(20,.pointer (some ⟨g,0,none⟩)),(21,.pointer (some ⟨g,0,none⟩)),(22,.slice RA n rcap),(23,.int .i64 ((n:Nat):Int)),(24,.bool true),(25,.bool true),(26,.pointer (some ⟨g,0,none⟩)),(27,.pointer (some ⟨g,0,none⟩)),(28,.pointer (some ⟨g,0,none⟩)),(29,.slice RA n rcap),(30,.int .i64 ((p:Nat):Int)),(31,.pointer (some pz6)),(32,.slice (ra (ps.getD p 0)) n (rc (ps.getD p 0))),(33,.int .i64 ((k:Nat):Int)),(34,.pointer (some pz7)),(35,.agg #[.bool sz7,.slice Bz7 nz7 cz7]),(36,.int .i64 (scmp (Z (ps.getD p 0) k) 0)),(37,.bool false),(38,.bool false),(41,.int .i64 ((p:Nat):Int)),(42,.pointer (some ⟨g,0,none⟩)),(43,.pointer (some ⟨g,0,none⟩)),(44,.pointer (some ⟨g,0,none⟩)),(45,.slice RA n rcap),(46,.int .i64 ((n:Nat):Int)),(47,.bool false),(48,.int .i64 ((p:Nat):Int)),(49,.int .i64 ((k:Nat):Int)),(50,.bool true),(51,.pointer (some ⟨g,0,none⟩)),(52,.pointer (some ⟨g,0,none⟩)),(53,.pointer (some ⟨g,0,none⟩)),(54,.slice RA n rcap),(55,.int .i64 ((p:Nat):Int)),(56,.pointer (some ⟨g,0,none⟩)),(57,.pointer (some ⟨g,0,none⟩)),(58,.pointer (some ⟨g,0,none⟩)),(59,.slice RA n rcap),(60,.int .i64 ((k:Nat):Int)),(61,.pointer (some ⟨g,0,none⟩)),(62,.pointer (some ⟨g,0,none⟩)),(63,.pointer (some ⟨g,0,none⟩)),(64,.slice RA n rcap),(65,.int .i64 ((k:Nat):Int)),(66,.pointer (some pz13)),(67,.slice (ra (ps.getD k 0)) n (rc (ps.getD k 0))),(68,.pointer (some ⟨g,0,none⟩)),(69,.pointer (some ⟨g,0,none⟩)),(70,.pointer (some ⟨g,0,none⟩)),(71,.slice RA n rcap),(72,.int .i64 ((p:Nat):Int)),(73,.pointer (some pz6)),(74,.slice (ra (ps.getD p 0)) n (rc (ps.getD p 0))),(75,.pointer (some pz6)),(76,.pointer (some pz19))] ⟨rfl,rfl,rfl,rfl,rfl,rfl,rfl,rfl,rfl,rfl,rfl,rfl,rfl,rfl,rfl,rfl,rfl,rfl,rfl,rfl,rfl,rfl,rfl,rfl,rfl,rfl,rfl,rfl,rfl,rfl,rfl,rfl,rfl,rfl,rfl,rfl,rfl,rfl,rfl,rfl,rfl,rfl,rfl,rfl,rfl,rfl,rfl,rfl,rfl,rfl,rfl,rfl,rfl,rfl,rfl,rfl,rfl,rfl,rfl,rfl,rfl,rfl,rfl,rfl,rfl,rfl,rfl,trivial⟩ ?_)))
    obtain⟨v25,hv,e26⟩:∃v,v=v21.drew∧Ext v21 v:=⟨_,rfl,(Ext.refl _).drew⟩
    have hw6:Bl lb w v25:=hw5.ext e26
    obtain⟨pz27,hpz27,hcz27⟩:=(((((o_NAwp.ext (e9.trans e12)).updO uo18 hA.RN).updO uo24 hA.RN).ext e26)).numAt (i:=k) (by omega)
    obtain⟨pz28,hpz28,hcz28⟩:=(((((o_NAwp.ext (e9.trans e12)).updO uo18 hA.RN).updO uo24 hA.RN).ext e26)).numAt (i:=p) (by omega)
    have lt29:=((((o_NAwp.ext (e9.trans e12)).updO uo18 hA.RN).updO uo24 hA.RN).ext e26)
    obtain⟨v30,hr31,own32,uo33⟩:=run_setNum lt29 (by omega) hpz28 (ns.getD k 0)
    have hw7:Bl lb w v30:=hw6.updO uo33 (fun p hp=>(lt29.block p hp).1)
    obtain⟨pz34,hpz34,hcz34⟩:=(own32).numAt (i:=k) (by omega)
    have lt35:=own32
    obtain⟨v36,hr37,own38,uo39⟩:=run_setNum lt35 (by omega) hpz34 (ns.getD p 0)
    have hw8:Bl lb w v36:=hw7.updO uo39 (fun p hp=>(lt35.block p hp).1)
    refine cw_det mix (w:=v25) [.pointer (some ⟨g,0,none⟩),.pointer (some ⟨g,0,none⟩),.pointer (some ⟨g,1,none⟩),.slice NA n ncap,.int .i64 ((p:Nat):Int),.pointer (some ⟨g,0,none⟩),.pointer (some ⟨g,0,none⟩),.pointer (some ⟨g,1,none⟩),.slice NA n ncap,.int .i64 ((k:Nat):Int),.pointer (some ⟨g,0,none⟩),.pointer (some ⟨g,0,none⟩),.pointer (some ⟨g,1,none⟩),.slice NA n ncap,.int .i64 ((k:Nat):Int),.pointer (some pz27),.int .i64 (ns.getD k 0),.pointer (some ⟨g,0,none⟩),.pointer (some ⟨g,0,none⟩),.pointer (some ⟨g,1,none⟩),.slice NA n ncap,.int .i64 ((p:Nat):Int),.pointer (some pz28),.int .i64 (ns.getD p 0),.pointer (some pz28),undef,.pointer (some pz34),undef] [v25,v30,v36] [25,27] [[],[0],[1],[2],[],[],[5],[6],[7],[],[],[10],[11],[12],[],[13,14],[15],[],[17],[18],[19],[],[20,21],[22],[3,4],[16,24],[8,9],[23,26]] [[],[0],[0,1],[0,1,2],[],[],[5],[5,6],[5,6,7],[],[],[10],[10,11],[10,11,12],[],[10,11,12,13,14],[10,11,12,13,14,15],[],[17],[17,18],[17,18,19],[],[17,18,19,20,21],[17,18,19,20,21,22],[0,1,2,3,4,5,6,7,8,10,11,12,13,14,15,16,17,18,19,20,21,22,23],[0,1,2,3,4,5,6,7,8,10,11,12,13,14,15,16,17,18,19,20,21,22,23,24],[0,1,2,3,4,5,6,7,8,9,10,11,12,13,14,15,16,17,18,19,20,21,22,23,24,25],[0,1,2,3,4,5,6,7,8,9,10,11,12,13,14,15,16,17,18,19,20,21,22,23,24,25,26]] [(0,0),(1,0),(2,0),(3,0),(4,0),(5,0),(6,0),(7,0),(8,0),(9,0),(9,1),(10,0),(11,0),(12,0),(13,0),(14,0),(15,0),(16,0),(17,0),(18,0),(19,0),(20,0),(21,0),(22,0),(23,0),(24,0),(25,0),(26,1),(27,1)] rfl hv ?_ ?_
    · 
     refine dobs_val _ rfl rfl rfl rfl rfl (rd_move rfl) (dobs_val _ rfl rfl rfl rfl rfl (rd_pure rfl (by kernel_rfl)) (dobs_val _ rfl rfl rfl rfl rfl (rd_pure rfl (by kernel_rfl)) (dobs_val _ rfl rfl rfl rfl rfl (rd_load rfl (load_cell cellNums ((((b_g.ext (e9.trans e12)).updO uo18 hA.Rg).updO uo24 hA.Rg).ext e26) rfl)) (dobs_val _ rfl rfl rfl rfl rfl (rd_move rfl) (dobs_val _ rfl rfl rfl rfl rfl (rd_move rfl) (dobs_val _ rfl rfl rfl rfl rfl (rd_pure rfl (by kernel_rfl)) (dobs_val _ rfl rfl rfl rfl rfl (rd_pure rfl (by kernel_rfl)) (dobs_val _ rfl rfl rfl rfl rfl (rd_load rfl (load_cell cellNums ((((b_g.ext (e9.trans e12)).updO uo18 hA.Rg).updO uo24 hA.Rg).ext e26) rfl)) (dobs_val _ rfl rfl rfl rfl rfl (rd_move rfl) (dobs_val _ rfl rfl rfl rfl rfl (rd_move rfl) (dobs_val _ rfl rfl rfl rfl rfl (rd_move rfl) (dobs_val _ rfl rfl rfl rfl rfl (rd_pure rfl (by kernel_rfl)) (dobs_val _ rfl rfl rfl rfl rfl (rd_pure rfl (by kernel_rfl)) ?_)))))))))))))
     refine dobs_val _ rfl rfl rfl rfl rfl (rd_load rfl (load_cell cellNums ((((b_g.ext (e9.trans e12)).updO uo18 hA.Rg).updO uo24 hA.Rg).ext e26) rfl)) (dobs_val _ rfl rfl rfl rfl rfl (rd_move rfl) (dobs_val _ rfl rfl rfl rfl rfl (rd_idx rfl rfl Try.underlying73 szInt k rfl (by omega) pz27 hpz27) (dobs_val _ rfl rfl rfl rfl rfl (rd_load rfl (load_cell1 cellInt hcz27)) (dobs_val _ rfl rfl rfl rfl rfl (rd_move rfl) (dobs_val _ rfl rfl rfl rfl rfl (rd_pure rfl (by kernel_rfl)) (dobs_val _ rfl rfl rfl rfl rfl (rd_pure rfl (by kernel_rfl)) (dobs_val _ rfl rfl rfl rfl rfl (rd_load rfl (load_cell cellNums ((((b_g.ext (e9.trans e12)).updO uo18 hA.Rg).updO uo24 hA.Rg).ext e26) rfl)) (dobs_val _ rfl rfl rfl rfl rfl (rd_move rfl) (dobs_val _ rfl rfl rfl rfl rfl (rd_idx rfl rfl Try.underlying73 szInt p rfl (by omega) pz28 hpz28) (dobs_val _ rfl rfl rfl rfl rfl (rd_load rfl (load_cell1 cellInt hcz28)) (dobs_val _ rfl rfl rfl rfl rfl (rd_idx rfl rfl Try.underlying73 szInt p rfl (by omega) pz28 hpz28) (dobs_sto _ rfl rfl rfl rfl rfl (rd_store rfl rfl hr31) (dobs_val _ rfl rfl rfl rfl rfl (rd_idx rfl rfl Try.underlying73 szInt k rfl (by omega) pz34 hpz34) ?_)))))))))))))
     refine dobs_sto _ rfl rfl rfl rfl rfl (rd_store rfl rfl hr37) ?_
     exact dobs_nil
    clear hv
    refine eo_keep [(0,.pointer (some ⟨g,0,none⟩)),(1,.int .i64 ((k:Nat):Int)),(4,.bool false),(5,.int .i64 ((k:Nat):Int)),(6,.int .i64 ((p:Nat):Int)),(13,.pointer (some ⟨g,0,none⟩)),(14,.pointer (some ⟨g,0,none⟩)),(15,.pointer (some ⟨g,5,none⟩)),(16,.int .i64 ((k:Nat):Int)),(17,.int .i64 ((k:Nat):Int)),(18,.int .i64 ((p:Nat):Int)),(19,.pointer (some ⟨g,0,none⟩)),(20,.pointer (some ⟨g,0,none⟩)),(21,.pointer (some ⟨g,0,none⟩)),(22,.slice RA n rcap),(23,.int .i64 ((n:Nat):Int)),(24,.bool true),(25,.bool true),(26,.pointer (some ⟨g,0,none⟩)),(27,.pointer (some ⟨g,0,none⟩)),(28,.pointer (some ⟨g,0,none⟩)),(29,.slice RA n rcap),(30,.int .i64 ((p:Nat):Int)),(31,.pointer (some pz6)),(32,.slice (ra (ps.getD p 0)) n (rc (ps.getD p 0))),(33,.int .i64 ((k:Nat):Int)),(34,.pointer (some pz7)),(35,.agg #[.bool sz7,.slice Bz7 nz7 cz7]),(36,.int .i64 (scmp (Z (ps.getD p 0) k) 0)),(37,.bool false),(38,.bool false),(41,.int .i64 ((p:Nat):Int)),(42,.pointer (some ⟨g,0,none⟩)),(43,.pointer (some ⟨g,0,none⟩)),(44,.pointer (some ⟨g,0,none⟩)),(45,.slice RA n rcap),(46,.int .i64 ((n:Nat):Int)),(47,.bool false),(48,.int .i64 ((p:Nat):Int)),(49,.int .i64 ((k:Nat):Int)),(50,.bool true),(51,.pointer (some ⟨g,0,none⟩)),(52,.pointer (some ⟨g,0,none⟩)),(53,.pointer (some ⟨g,0,none⟩)),(54,.slice RA n rcap),(55,.int .i64 ((p:Nat):Int)),(56,.pointer (some ⟨g,0,none⟩)),(57,.pointer (some ⟨g,0,none⟩)),(58,.pointer (some ⟨g,0,none⟩)),(59,.slice RA n rcap),(60,.int .i64 ((k:Nat):Int)),(61,.pointer (some ⟨g,0,none⟩)),(62,.pointer (some ⟨g,0,none⟩)),(63,.pointer (some ⟨g,0,none⟩)),(64,.slice RA n rcap),(65,.int .i64 ((k:Nat):Int)),(66,.pointer (some pz13)),(67,.slice (ra (ps.getD k 0)) n (rc (ps.getD k 0))),(68,.pointer (some ⟨g,0,none⟩)),(69,.pointer (some ⟨g,0,none⟩)),(70,.pointer (some ⟨g,0,none⟩)),(71,.slice RA n rcap),(72,.int .i64 ((p:Nat):Int)),(73,.pointer (some pz6)),(74,.slice (ra (ps.getD p 0)) n (rc (ps.getD p 0))),(75,.pointer (some pz6)),(76,.pointer (some pz19)),(77,.pointer (some ⟨g,0,none⟩)),(78,.pointer (some ⟨g,0,none⟩)),(79,.pointer (some ⟨g,1,none⟩)),(80,.slice NA n ncap),(81,.int .i64 ((p:Nat):Int)),(82,.pointer (some ⟨g,0,none⟩)),(83,.pointer (some ⟨g,0,none⟩)),(84,.pointer (some ⟨g,1,none⟩)),(85,.slice NA n ncap),(86,.int .i64 ((k:Nat):Int)),(87,.pointer (some ⟨g,0,none⟩)),(88,.pointer (some ⟨g,0,none⟩)),(89,.pointer (some ⟨g,1,none⟩)),(90,.slice NA n ncap),(91,.int .i64 ((k:Nat):Int)),(92,.pointer (some pz27)),(93,.int .i64 (ns.getD k 0)),(94,.pointer (some ⟨g,0,none⟩)),(95,.pointer (some ⟨g,0,none⟩)),(96,.pointer (some ⟨g,1,none⟩)),(97,.slice NA n ncap),(98,.int .i64 ((p:Nat):Int)),(99,.pointer (some pz28)),(100,.int .i64 (ns.getD p 0)),(101,.pointer (some pz28)),(102,.pointer (some pz34))] ⟨rfl,rfl,rfl,rfl,rfl,rfl,rfl,rfl,rfl,rfl,rfl,rfl,rfl,rfl,rfl,rfl,rfl,rfl,rfl,rfl,rfl,rfl,rfl,rfl,rfl,rfl,rfl,rfl,rfl,rfl,rfl,rfl,rfl,rfl,rfl,rfl,rfl,rfl,rfl,rfl,rfl,rfl,rfl,rfl,rfl,rfl,rfl,rfl,rfl,rfl,rfl,rfl,rfl,rfl,rfl,rfl,rfl,rfl,rfl,rfl,rfl,rfl,rfl,rfl,rfl,rfl,rfl,rfl,rfl,rfl,rfl,rfl,rfl,rfl,rfl,rfl,rfl,rfl,rfl,rfl,rfl,rfl,rfl,rfl,rfl,rfl,rfl,rfl,rfl,rfl,rfl,rfl,rfl,trivial⟩ (eo_then (cw_region (mv 2 rfl (pf g 0 rfl (by kernel_rfl) (pf g 2 rfl (by kernel_rfl) (wl_load rfl rfl (load_cell cellBool ((((((b_g.ext (e9.trans e12)).updO uo18 hA.Rg).updO uo24 hA.Rg).ext e26).updO uo33 hA.Ng).updO uo39 hA.Ng) rfl) (by decide) (pu (v:= .bool (!tu)) rfl (by kernel_rfl) (pf g 0 rfl (by kernel_rfl) (pf g 2 rfl (by kernel_rfl) ?_)))))))))
    have hb41:=((((((b_g.ext (e9.trans e12)).updO uo18 hA.Rg).updO uo24 hA.Rg).ext e26).updO uo33 hA.Ng).updO uo39 hA.Ng)
    refine wl_stored1 rfl rfl rfl szBool rfl hb41 (bq rfl) rfl [.slice RA n rcap,.slice NA n ncap,.bool (!tu),.bool sl,.slice Al nl cl,.int .i64 ((k:Nat):Int)] rfl fun v40 hb42 u43 hs44=>?_
    have hw9:Bl lb w v40:=hw8.upd u43 hA.lg
    refine ne_ (cw_seq ?_)
    obtain⟨qs,hqs⟩:∃qs,qs=swp ps p k:=⟨_,rfl⟩
    have hI:Inv n X k qs Z (!tu) z:=by rw [hqs];exact hI0.swp (by omega) hkp hpn hpk
    have hD:Z (qs.getD k 0) k≠0:=by rw [hqs,swp_get hI0.per.len hpn (by omega),if_pos rfl];exact hzp
    have ow45:Own v40 lb 22 1 RA n rcap (qs.map (rwv ra rc n)):=by rw [hqs];exact ((((own23.ext e26).updO uo33 (fun p q hp hq e=>hA.RN q p hq hp e.symm)).updO uo39 (fun p q hp hq e=>hA.RN q p hq hp e.symm)).upd u43 hA.Rg)
    have hDb:bm (pr X qs) k k k≠0:=by rw [←hI.ent k k (Nat.le_refl _) (by omega) (Nat.le_refl _) (by omega)];exact hD
    refine cw_region (mv 1 rfl (pf g 0 rfl (by kernel_rfl) (pf g 0 rfl (by kernel_rfl) (wl_load rfl rfl (load_cell cellRows hb42 rfl) (by decide) (mv 1 rfl ?_)))))
    obtain⟨pz46,hpz46,hcz46⟩:=(ow45).rowAt (i:=k) (by omega)
    refine wl_idx rfl rfl rfl unRows szInts k rfl (by omega) pz46 hpz46 (by decide) (wl_load rfl rfl (load_cell1 cellInts hcz46) (by decide) (mv 1 rfl (ne_ (cw_seq (sr (mv 1 rfl (pf g 0 rfl (by kernel_rfl) (pf g 0 rfl (by kernel_rfl) (wl_load rfl rfl (load_cell cellRows hb42 rfl) (by decide) (mv 1 rfl (wl_ar rfl rfl rfl ((k+1:Nat):Int) (ai_add (a:=k) (b:=1) rfl rfl (by omega)) (by decide) (wl_slice rfl rfl unRows szInts (lo:=k+1) (hi:=n) rfl rfl (by omega) hcap (v:= .slice (if rcap=k+1 then RA else RA.map (·.add ((k+1)*1))) (n-(k+1)) (rcap-(k+1))) rfl (by decide) (pu (v:= .int .i64 ((n-(k+1):Nat):Int)) rfl (by kernel_rfl) ?_)))))))))))))
    refine mv 1 rfl (ne_ (cw_block ?_))
    refine cw_loop (T:=World×Nat×Mx) (fun⟨wt,t,Y⟩=> [(0,.pointer (some ⟨g,0,none⟩)),(1,.int .i64 ((k:Nat):Int)),(4,.bool false),(5,.int .i64 ((k:Nat):Int)),(6,.int .i64 ((p:Nat):Int)),(7,.slice (ra (qs.getD k 0)) n (rc (qs.getD k 0))),(13,.pointer (some ⟨g,0,none⟩)),(14,.pointer (some ⟨g,0,none⟩)),(15,.pointer (some ⟨g,5,none⟩)),(16,.int .i64 ((k:Nat):Int)),(17,.int .i64 ((k:Nat):Int)),(18,.int .i64 ((p:Nat):Int)),(19,.pointer (some ⟨g,0,none⟩)),(20,.pointer (some ⟨g,0,none⟩)),(21,.pointer (some ⟨g,0,none⟩)),(22,.slice RA n rcap),(23,.int .i64 ((n:Nat):Int)),(24,.bool true),(25,.bool true),(26,.pointer (some ⟨g,0,none⟩)),(27,.pointer (some ⟨g,0,none⟩)),(28,.pointer (some ⟨g,0,none⟩)),(29,.slice RA n rcap),(30,.int .i64 ((p:Nat):Int)),(31,.pointer (some pz6)),(32,.slice (ra (ps.getD p 0)) n (rc (ps.getD p 0))),(33,.int .i64 ((k:Nat):Int)),(34,.pointer (some pz7)),(35,.agg #[.bool sz7,.slice Bz7 nz7 cz7]),(36,.int .i64 (scmp (Z (ps.getD p 0) k) 0)),(37,.bool false),(38,.bool false),(41,.int .i64 ((p:Nat):Int)),(42,.pointer (some ⟨g,0,none⟩)),(43,.pointer (some ⟨g,0,none⟩)),(44,.pointer (some ⟨g,0,none⟩)),(45,.slice RA n rcap),(46,.int .i64 ((n:Nat):Int)),(47,.bool false),(48,.int .i64 ((p:Nat):Int)),(49,.int .i64 ((k:Nat):Int)),(50,.bool true),(51,.pointer (some ⟨g,0,none⟩)),(52,.pointer (some ⟨g,0,none⟩)),(53,.pointer (some ⟨g,0,none⟩)),(54,.slice RA n rcap),(55,.int .i64 ((p:Nat):Int)),(56,.pointer (some ⟨g,0,none⟩)),(57,.pointer (some ⟨g,0,none⟩)),(58,.pointer (some ⟨g,0,none⟩)),(59,.slice RA n rcap),(60,.int .i64 ((k:Nat):Int)),(61,.pointer (some ⟨g,0,none⟩)),(62,.pointer (some ⟨g,0,none⟩)),(63,.pointer (some ⟨g,0,none⟩)),(64,.slice RA n rcap),(65,.int .i64 ((k:Nat):Int)),(66,.pointer (some pz13)),(67,.slice (ra (ps.getD k 0)) n (rc (ps.getD k 0))),(68,.pointer (some ⟨g,0,none⟩)),(69,.pointer (some ⟨g,0,none⟩)),(70,.pointer (some ⟨g,0,none⟩)),(71,.slice RA n rcap),(72,.int .i64 ((p:Nat):Int)),(73,.pointer (some pz6)),(74,.slice (ra (ps.getD p 0)) n (rc (ps.getD p 0))),(75,.pointer (some pz6)),(76,.pointer (some pz19)),(77,.pointer (some ⟨g,0,none⟩)),(78,.pointer (some ⟨g,0,none⟩)),(79,.pointer (some ⟨g,1,none⟩)),(80,.slice NA n ncap),(81,.int .i64 ((p:Nat):Int)),(82,.pointer (some ⟨g,0,none⟩)),(83,.pointer (some ⟨g,0,none⟩)),(84,.pointer (some ⟨g,1,none⟩)),(85,.slice NA n ncap),(86,.int .i64 ((k:Nat):Int)),(87,.pointer (some ⟨g,0,none⟩)),(88,.pointer (some ⟨g,0,none⟩)),(89,.pointer (some ⟨g,1,none⟩)),(90,.slice NA n ncap),(91,.int .i64 ((k:Nat):Int)),(92,.pointer (some pz27)),(93,.int .i64 (ns.getD k 0)),(94,.pointer (some ⟨g,0,none⟩)),(95,.pointer (some ⟨g,0,none⟩)),(96,.pointer (some ⟨g,1,none⟩)),(97,.slice NA n ncap),(98,.int .i64 ((p:Nat):Int)),(99,.pointer (some pz28)),(100,.int .i64 (ns.getD p 0)),(101,.pointer (some pz28)),(102,.pointer (some pz34)),(103,.pointer (some ⟨g,0,none⟩)),(104,.pointer (some ⟨g,0,none⟩)),(105,.pointer (some ⟨g,0,none⟩)),(106,.pointer (some ⟨g,2,none⟩)),(107,.bool tu),(108,.bool (!tu)),(109,.pointer (some ⟨g,0,none⟩)),(110,.pointer (some ⟨g,2,none⟩)),(111,.pointer (some ⟨g,0,none⟩)),(112,.pointer (some ⟨g,0,none⟩)),(113,.pointer (some ⟨g,0,none⟩)),(114,.slice RA n rcap),(115,.int .i64 ((k:Nat):Int)),(116,.pointer (some pz46)),(117,.slice (ra (qs.getD k 0)) n (rc (qs.getD k 0))),(118,.pointer (some ⟨g,0,none⟩)),(119,.pointer (some ⟨g,0,none⟩)),(120,.pointer (some ⟨g,0,none⟩)),(121,.slice RA n rcap),(122,.int .i64 ((k:Nat):Int)),(123,.int .i64 ((k+1:Nat):Int)),(124,.slice (if rcap=k+1 then RA else RA.map (·.add ((k+1)*1))) (n-(k+1)) (rcap-(k+1))),(125,.int .i64 ((n-(k+1):Nat):Int)),(126,.int .i64 ((t:Nat):Int))]) (fun⟨wt,t,Y⟩=>wt) (fun⟨wt,t,Y⟩=>(Bl lb w wt)∧(t≤n-(k+1))∧(Bk wt g 75 [.slice RA n rcap,.slice NA n ncap,.bool (!tu),.bool sl,.slice Al nl cl,.int .i64 ((k:Nat):Int)])∧(Zr wt 0 sl Al nl cl (z))∧(Own wt lb 22 1 RA n rcap (qs.map (rwv ra rc n)))∧(Own wt lb 3 1 NA n ncap (((ns.set p (ns.getD k 0)).set k (ns.getD p 0)).map I64))∧(Rcs 17179869184 lb n n ra rc wt Y)∧(Mid n k (pr X qs) qs Y (k+1+t) (k+1))) (fun⟨wt,t,Y⟩=>(n-(k+1))-t)
     (⟨v40,0,Z⟩:World×Nat×Mx) ⟨hw9,(by omega),hb42,(((((((z_g_1.ext (e9.trans e12)).updOT lt14 uo18).updOT lt20 uo24).ext e26).updOT lt29 uo33).updOT lt35 uo39).updT hb41 u43),ow45,(own38.upd u43 hA.Ng),(((((((rc_wp.ext (e9.trans e12)).updQ lt14 uo18 hA.Rr).updQ lt20 uo24 hA.Rr).ext e26).updQ lt29 uo33 hA.Nr).updQ lt35 uo39 hA.Nr).updT hb41 u43 hA.rg),(Mid.start hI)⟩ rfl ⟨rfl,rfl,rfl,rfl,rfl,rfl,rfl,rfl,rfl,rfl,rfl,rfl,rfl,rfl,rfl,rfl,rfl,rfl,rfl,rfl,rfl,rfl,rfl,rfl,rfl,rfl,rfl,rfl,rfl,rfl,rfl,rfl,rfl,rfl,rfl,rfl,rfl,rfl,rfl,rfl,rfl,rfl,rfl,rfl,rfl,rfl,rfl,rfl,rfl,rfl,rfl,rfl,rfl,rfl,rfl,rfl,rfl,rfl,rfl,rfl,rfl,rfl,rfl,rfl,rfl,rfl,rfl,rfl,rfl,rfl,rfl,rfl,rfl,rfl,rfl,rfl,rfl,rfl,rfl,rfl,rfl,rfl,rfl,rfl,rfl,rfl,rfl,rfl,rfl,rfl,rfl,rfl,rfl,rfl,rfl,rfl,rfl,rfl,rfl,rfl,rfl,rfl,rfl,rfl,rfl,rfl,rfl,rfl,rfl,rfl,rfl,rfl,rfl,rfl,rfl,rfl,rfl,rfl,trivial⟩ ?_
    rintro⟨wt,t,Y⟩ ⟨hw1,hi_t,b_g,z_g_1,o_RAwt,o_NAwt,rc_wt,hM⟩
    refine cw_re [(0,.pointer (some ⟨g,0,none⟩)),(1,.int .i64 ((k:Nat):Int)),(4,.bool false),(5,.int .i64 ((k:Nat):Int)),(6,.int .i64 ((p:Nat):Int)),(7,.slice (ra (qs.getD k 0)) n (rc (qs.getD k 0))),(13,.pointer (some ⟨g,0,none⟩)),(14,.pointer (some ⟨g,0,none⟩)),(15,.pointer (some ⟨g,5,none⟩)),(16,.int .i64 ((k:Nat):Int)),(17,.int .i64 ((k:Nat):Int)),(18,.int .i64 ((p:Nat):Int)),(19,.pointer (some ⟨g,0,none⟩)),(20,.pointer (some ⟨g,0,none⟩)),(21,.pointer (some ⟨g,0,none⟩)),(22,.slice RA n rcap),(23,.int .i64 ((n:Nat):Int)),(24,.bool true),(25,.bool true),(26,.pointer (some ⟨g,0,none⟩)),(27,.pointer (some ⟨g,0,none⟩)),(28,.pointer (some ⟨g,0,none⟩)),(29,.slice RA n rcap),(30,.int .i64 ((p:Nat):Int)),(31,.pointer (some pz6)),(32,.slice (ra (ps.getD p 0)) n (rc (ps.getD p 0))),(33,.int .i64 ((k:Nat):Int)),(34,.pointer (some pz7)),(35,.agg #[.bool sz7,.slice Bz7 nz7 cz7]),(36,.int .i64 (scmp (Z (ps.getD p 0) k) 0)),(37,.bool false),(38,.bool false),(41,.int .i64 ((p:Nat):Int)),(42,.pointer (some ⟨g,0,none⟩)),(43,.pointer (some ⟨g,0,none⟩)),(44,.pointer (some ⟨g,0,none⟩)),(45,.slice RA n rcap),(46,.int .i64 ((n:Nat):Int)),(47,.bool false),(48,.int .i64 ((p:Nat):Int)),(49,.int .i64 ((k:Nat):Int)),(50,.bool true),(51,.pointer (some ⟨g,0,none⟩)),(52,.pointer (some ⟨g,0,none⟩)),(53,.pointer (some ⟨g,0,none⟩)),(54,.slice RA n rcap),(55,.int .i64 ((p:Nat):Int)),(56,.pointer (some ⟨g,0,none⟩)),(57,.pointer (some ⟨g,0,none⟩)),(58,.pointer (some ⟨g,0,none⟩)),(59,.slice RA n rcap),(60,.int .i64 ((k:Nat):Int)),(61,.pointer (some ⟨g,0,none⟩)),(62,.pointer (some ⟨g,0,none⟩)),(63,.pointer (some ⟨g,0,none⟩)),(64,.slice RA n rcap),(65,.int .i64 ((k:Nat):Int)),(66,.pointer (some pz13)),(67,.slice (ra (ps.getD k 0)) n (rc (ps.getD k 0))),(68,.pointer (some ⟨g,0,none⟩)),(69,.pointer (some ⟨g,0,none⟩)),(70,.pointer (some ⟨g,0,none⟩)),(71,.slice RA n rcap),(72,.int .i64 ((p:Nat):Int)),(73,.pointer (some pz6)),(74,.slice (ra (ps.getD p 0)) n (rc (ps.getD p 0))),(75,.pointer (some pz6)),(76,.pointer (some pz19)),(77,.pointer (some ⟨g,0,none⟩)),(78,.pointer (some ⟨g,0,none⟩)),(79,.pointer (some ⟨g,1,none⟩)),(80,.slice NA n ncap),(81,.int .i64 ((p:Nat):Int)),(82,.pointer (some ⟨g,0,none⟩)),(83,.pointer (some ⟨g,0,none⟩)),(84,.pointer (some ⟨g,1,none⟩)),(85,.slice NA n ncap),(86,.int .i64 ((k:Nat):Int)),(87,.pointer (some ⟨g,0,none⟩)),(88,.pointer (some ⟨g,0,none⟩)),(89,.pointer (some ⟨g,1,none⟩)),(90,.slice NA n ncap),(91,.int .i64 ((k:Nat):Int)),(92,.pointer (some pz27)),(93,.int .i64 (ns.getD k 0)),(94,.pointer (some ⟨g,0,none⟩)),(95,.pointer (some ⟨g,0,none⟩)),(96,.pointer (some ⟨g,1,none⟩)),(97,.slice NA n ncap),(98,.int .i64 ((p:Nat):Int)),(99,.pointer (some pz28)),(100,.int .i64 (ns.getD p 0)),(101,.pointer (some pz28)),(102,.pointer (some pz34)),(103,.pointer (some ⟨g,0,none⟩)),(104,.pointer (some ⟨g,0,none⟩)),(105,.pointer (some ⟨g,0,none⟩)),(106,.pointer (some ⟨g,2,none⟩)),(107,.bool tu),(108,.bool (!tu)),(109,.pointer (some ⟨g,0,none⟩)),(110,.pointer (some ⟨g,2,none⟩)),(111,.pointer (some ⟨g,0,none⟩)),(112,.pointer (some ⟨g,0,none⟩)),(113,.pointer (some ⟨g,0,none⟩)),(114,.slice RA n rcap),(115,.int .i64 ((k:Nat):Int)),(116,.pointer (some pz46)),(117,.slice (ra (qs.getD k 0)) n (rc (qs.getD k 0))),(118,.pointer (some ⟨g,0,none⟩)),(119,.pointer (some ⟨g,0,none⟩)),(120,.pointer (some ⟨g,0,none⟩)),(121,.slice RA n rcap),(122,.int .i64 ((k:Nat):Int)),(123,.int .i64 ((k+1:Nat):Int)),(124,.slice (if rcap=k+1 then RA else RA.map (·.add ((k+1)*1))) (n-(k+1)) (rcap-(k+1))),(125,.int .i64 ((n-(k+1):Nat):Int)),(126,.int .i64 ((t:Nat):Int))] wt rfl ⟨rfl,rfl,rfl,rfl,rfl,rfl,rfl,rfl,rfl,rfl,rfl,rfl,rfl,rfl,rfl,rfl,rfl,rfl,rfl,rfl,rfl,rfl,rfl,rfl,rfl,rfl,rfl,rfl,rfl,rfl,rfl,rfl,rfl,rfl,rfl,rfl,rfl,rfl,rfl,rfl,rfl,rfl,rfl,rfl,rfl,rfl,rfl,rfl,rfl,rfl,rfl,rfl,rfl,rfl,rfl,rfl,rfl,rfl,rfl,rfl,rfl,rfl,rfl,rfl,rfl,rfl,rfl,rfl,rfl,rfl,rfl,rfl,rfl,rfl,rfl,rfl,rfl,rfl,rfl,rfl,rfl,rfl,rfl,rfl,rfl,rfl,rfl,rfl,rfl,rfl,rfl,rfl,rfl,rfl,rfl,rfl,rfl,rfl,rfl,rfl,rfl,rfl,rfl,rfl,rfl,rfl,rfl,rfl,rfl,rfl,rfl,rfl,rfl,rfl,rfl,rfl,rfl,rfl,trivial⟩ (cw_seq ?_)
    by_cases htn:t<n-(k+1)
    · 
     refine cw_region (wl_cmp rfl rfl rfl true (cb_lt_t (a:=t) (b:=n-(k+1)) rfl rfl (by omega)) (by decide) (ne_ (cw_seq (cw_true rfl (cw_skip (eo_then (cw_seq (cw_block (sr ?_)))))))))
     obtain⟨pz47,hpz47,hcz47⟩:=(o_RAwt).rowTail (lo:=k+1) (i:=t) (by omega)
     refine wl_idx rfl rfl rfl unRows szInts t rfl (by omega) pz47 hpz47 (by decide) (wl_load rfl rfl (load_cell1 cellInts hcz47) (by decide) (mv 1 rfl (ne_ (sr (mv 2 rfl ?_)))))
     obtain⟨pz48,sz48,Bz48,nz48,cz48,hpz48,ldz48,hKz48,zz48⟩:=(rc_wt).at (hI.per.lt (k+1+t) (by omega)) (show k<n by omega)
     refine wl_idx rfl rfl rfl elemI aggInt.size k rfl (by omega) pz48 hpz48 (by decide) (wl_load rfl rfl (ldz48 _ (Ext.refl _) _ _ aggInt) (by decide) (wl_alloc rfl (z:= .agg #[F0,S0]) (vs:= [F0,S0]) (fun _=>by kernel_rfl) rfl (by decide) fun g49 v50 nb=>?_))
     have hb52:=nb.bk
     have ge53:w.heap.size≤g49:=by rw [←nb.at_];exact hw1.size
     have q54:g<g49:=by rw [←nb.at_];exact b_g.lt
     have ne55:∀p:Addr,RA=some p→p.block≠g49:=fun p hp=>by have:=((o_RAwt).block p hp).2;have:=nb.at_;omega
     have ne56:∀p:Addr,NA=some p→p.block≠g49:=fun p hp=>by have:=((o_NAwt).block p hp).2;have:=nb.at_;omega
     have nr57:∀r,r<n→∀p:Addr,ra r=some p→p.block≠g49:=fun r hr p hp=>by have:=((rc_wt).lt r hr p hp).2;have:=nb.at_;omega
     have e51:=nb.ext
     clear nb
     have hw2:Bl lb w v50:=hw1.ext e51
     refine wl_stored rfl rfl rfl aggInt rfl hb52 (bq rfl) rfl [.bool sz48,.slice Bz48 nz48 cz48] rfl fun v58 hb60 u61 hs62=>?_
     have hw3:Bl lb w v58:=hw2.upd u61 (Nat.le_trans hlb ge53)
     refine ne_ (cw_seq (sr (mv 1 rfl (wl_ar rfl rfl rfl ((k+1:Nat):Int) (ai_add (a:=k) (b:=1) rfl rfl (by omega)) (by decide) (mv 1 rfl (ne_ (cw_block ?_)))))))
     refine cw_loop (T:=World×Nat×Mx) (fun⟨wj,j,V⟩=> [(0,.pointer (some ⟨g,0,none⟩)),(1,.int .i64 ((k:Nat):Int)),(4,.bool false),(5,.int .i64 ((k:Nat):Int)),(6,.int .i64 ((p:Nat):Int)),(7,.slice (ra (qs.getD k 0)) n (rc (qs.getD k 0))),(9,.slice (ra (qs.getD (k+1+t) 0)) n (rc (qs.getD (k+1+t) 0))),(10,.pointer (some ⟨g49,0,none⟩)),(11,.int .i64 ((j:Nat):Int)),(13,.pointer (some ⟨g,0,none⟩)),(14,.pointer (some ⟨g,0,none⟩)),(15,.pointer (some ⟨g,5,none⟩)),(16,.int .i64 ((k:Nat):Int)),(17,.int .i64 ((k:Nat):Int)),(18,.int .i64 ((p:Nat):Int)),(19,.pointer (some ⟨g,0,none⟩)),(20,.pointer (some ⟨g,0,none⟩)),(21,.pointer (some ⟨g,0,none⟩)),(22,.slice RA n rcap),(23,.int .i64 ((n:Nat):Int)),(24,.bool true),(25,.bool true),(26,.pointer (some ⟨g,0,none⟩)),(27,.pointer (some ⟨g,0,none⟩)),(28,.pointer (some ⟨g,0,none⟩)),(29,.slice RA n rcap),(30,.int .i64 ((p:Nat):Int)),(31,.pointer (some pz6)),(32,.slice (ra (ps.getD p 0)) n (rc (ps.getD p 0))),(33,.int .i64 ((k:Nat):Int)),(34,.pointer (some pz7)),(35,.agg #[.bool sz7,.slice Bz7 nz7 cz7]),(36,.int .i64 (scmp (Z (ps.getD p 0) k) 0)),(37,.bool false),(38,.bool false),(41,.int .i64 ((p:Nat):Int)),(42,.pointer (some ⟨g,0,none⟩)),(43,.pointer (some ⟨g,0,none⟩)),(44,.pointer (some ⟨g,0,none⟩)),(45,.slice RA n rcap),(46,.int .i64 ((n:Nat):Int)),(47,.bool false),(48,.int .i64 ((p:Nat):Int)),(49,.int .i64 ((k:Nat):Int)),(50,.bool true),(51,.pointer (some ⟨g,0,none⟩)),(52,.pointer (some ⟨g,0,none⟩)),(53,.pointer (some ⟨g,0,none⟩)),(54,.slice RA n rcap),(55,.int .i64 ((p:Nat):Int)),(56,.pointer (some ⟨g,0,none⟩)),(57,.pointer (some ⟨g,0,none⟩)),(58,.pointer (some ⟨g,0,none⟩)),(59,.slice RA n rcap),(60,.int .i64 ((k:Nat):Int)),(61,.pointer (some ⟨g,0,none⟩)),(62,.pointer (some ⟨g,0,none⟩)),(63,.pointer (some ⟨g,0,none⟩)),(64,.slice RA n rcap),(65,.int .i64 ((k:Nat):Int)),(66,.pointer (some pz13)),(67,.slice (ra (ps.getD k 0)) n (rc (ps.getD k 0))),(68,.pointer (some ⟨g,0,none⟩)),(69,.pointer (some ⟨g,0,none⟩)),(70,.pointer (some ⟨g,0,none⟩)),(71,.slice RA n rcap),(72,.int .i64 ((p:Nat):Int)),(73,.pointer (some pz6)),(74,.slice (ra (ps.getD p 0)) n (rc (ps.getD p 0))),(75,.pointer (some pz6)),(76,.pointer (some pz19)),(77,.pointer (some ⟨g,0,none⟩)),(78,.pointer (some ⟨g,0,none⟩)),(79,.pointer (some ⟨g,1,none⟩)),(80,.slice NA n ncap),(81,.int .i64 ((p:Nat):Int)),(82,.pointer (some ⟨g,0,none⟩)),(83,.pointer (some ⟨g,0,none⟩)),(84,.pointer (some ⟨g,1,none⟩)),(85,.slice NA n ncap),(86,.int .i64 ((k:Nat):Int)),(87,.pointer (some ⟨g,0,none⟩)),(88,.pointer (some ⟨g,0,none⟩)),(89,.pointer (some ⟨g,1,none⟩)),(90,.slice NA n ncap),(91,.int .i64 ((k:Nat):Int)),(92,.pointer (some pz27)),(93,.int .i64 (ns.getD k 0)),(94,.pointer (some ⟨g,0,none⟩)),(95,.pointer (some ⟨g,0,none⟩)),(96,.pointer (some ⟨g,1,none⟩)),(97,.slice NA n ncap),(98,.int .i64 ((p:Nat):Int)),(99,.pointer (some pz28)),(100,.int .i64 (ns.getD p 0)),(101,.pointer (some pz28)),(102,.pointer (some pz34)),(103,.pointer (some ⟨g,0,none⟩)),(104,.pointer (some ⟨g,0,none⟩)),(105,.pointer (some ⟨g,0,none⟩)),(106,.pointer (some ⟨g,2,none⟩)),(107,.bool tu),(108,.bool (!tu)),(109,.pointer (some ⟨g,0,none⟩)),(110,.pointer (some ⟨g,2,none⟩)),(111,.pointer (some ⟨g,0,none⟩)),(112,.pointer (some ⟨g,0,none⟩)),(113,.pointer (some ⟨g,0,none⟩)),(114,.slice RA n rcap),(115,.int .i64 ((k:Nat):Int)),(116,.pointer (some pz46)),(117,.slice (ra (qs.getD k 0)) n (rc (qs.getD k 0))),(118,.pointer (some ⟨g,0,none⟩)),(119,.pointer (some ⟨g,0,none⟩)),(120,.pointer (some ⟨g,0,none⟩)),(121,.slice RA n rcap),(122,.int .i64 ((k:Nat):Int)),(123,.int .i64 ((k+1:Nat):Int)),(124,.slice (if rcap=k+1 then RA else RA.map (·.add ((k+1)*1))) (n-(k+1)) (rcap-(k+1))),(125,.int .i64 ((n-(k+1):Nat):Int)),(126,.int .i64 ((t:Nat):Int)),(127,.bool true),(128,.pointer (some pz47)),(129,.slice (ra (qs.getD (k+1+t) 0)) n (rc (qs.getD (k+1+t) 0))),(130,.slice (ra (qs.getD (k+1+t) 0)) n (rc (qs.getD (k+1+t) 0))),(131,.int .i64 ((k:Nat):Int)),(132,.pointer (some pz48)),(133,.agg #[.bool sz48,.slice Bz48 nz48 cz48]),(134,.int .i64 ((k:Nat):Int)),(135,.int .i64 ((k+1:Nat):Int))]) (fun⟨wj,j,V⟩=>wj) (fun⟨wj,j,V⟩=>(Bl lb w wj)∧(j≤n)∧(Bk wj g 75 [.slice RA n rcap,.slice NA n ncap,.bool (!tu),.bool sl,.slice Al nl cl,.int .i64 ((k:Nat):Int)])∧(Zr wj 0 sl Al nl cl (z))∧(Bk wj g49 34 [.bool sz48,.slice Bz48 nz48 cz48])∧(Zr wj 0 sz48 Bz48 nz48 cz48 (Y (qs.getD (k+1+t) 0) k))∧(Own wj lb 22 1 RA n rcap (qs.map (rwv ra rc n)))∧(Own wj lb 3 1 NA n ncap (((ns.set p (ns.getD k 0)).set k (ns.getD p 0)).map I64))∧(Rcs 17179869184 lb n n ra rc wj V)∧(k<j)∧(Mid n k (pr X qs) qs V (k+1+t) j)) (fun⟨wj,j,V⟩=>n-j)
      (⟨v58,(k+1),Y⟩:World×Nat×Mx) ⟨hw3,(by omega),((b_g.ext e51).updN u61 (by omega)),((z_g_1.ext e51).updT hb52 u61),hb60,((zz48.ext e51).updT hb52 u61),((o_RAwt.ext e51).upd u61 ne55),((o_NAwt.ext e51).upd u61 ne56),((rc_wt.ext e51).updT hb52 u61 nr57),(by omega),hM⟩ rfl ⟨rfl,rfl,rfl,rfl,rfl,rfl,rfl,rfl,rfl,rfl,rfl,rfl,rfl,rfl,rfl,rfl,rfl,rfl,rfl,rfl,rfl,rfl,rfl,rfl,rfl,rfl,rfl,rfl,rfl,rfl,rfl,rfl,rfl,rfl,rfl,rfl,rfl,rfl,rfl,rfl,rfl,rfl,rfl,rfl,rfl,rfl,rfl,rfl,rfl,rfl,rfl,rfl,rfl,rfl,rfl,rfl,rfl,rfl,rfl,rfl,rfl,rfl,rfl,rfl,rfl,rfl,rfl,rfl,rfl,rfl,rfl,rfl,rfl,rfl,rfl,rfl,rfl,rfl,rfl,rfl,rfl,rfl,rfl,rfl,rfl,rfl,rfl,rfl,rfl,rfl,rfl,rfl,rfl,rfl,rfl,rfl,rfl,rfl,rfl,rfl,rfl,rfl,rfl,rfl,rfl,rfl,rfl,rfl,rfl,rfl,rfl,rfl,rfl,rfl,rfl,rfl,rfl,rfl,rfl,rfl,rfl,rfl,rfl,rfl,rfl,rfl,rfl,rfl,rfl,rfl,trivial⟩ ?_
     rintro⟨wj,j,V⟩ ⟨hw1,hi_j,b_g,z_g_1,b_g49,z_g49,o_RAwj,o_NAwj,rc_wj,hj1,hMV⟩
     refine cw_re [(0,.pointer (some ⟨g,0,none⟩)),(1,.int .i64 ((k:Nat):Int)),(4,.bool false),(5,.int .i64 ((k:Nat):Int)),(6,.int .i64 ((p:Nat):Int)),(7,.slice (ra (qs.getD k 0)) n (rc (qs.getD k 0))),(9,.slice (ra (qs.getD (k+1+t) 0)) n (rc (qs.getD (k+1+t) 0))),(10,.pointer (some ⟨g49,0,none⟩)),(11,.int .i64 ((j:Nat):Int)),(13,.pointer (some ⟨g,0,none⟩)),(14,.pointer (some ⟨g,0,none⟩)),(15,.pointer (some ⟨g,5,none⟩)),(16,.int .i64 ((k:Nat):Int)),(17,.int .i64 ((k:Nat):Int)),(18,.int .i64 ((p:Nat):Int)),(19,.pointer (some ⟨g,0,none⟩)),(20,.pointer (some ⟨g,0,none⟩)),(21,.pointer (some ⟨g,0,none⟩)),(22,.slice RA n rcap),(23,.int .i64 ((n:Nat):Int)),(24,.bool true),(25,.bool true),(26,.pointer (some ⟨g,0,none⟩)),(27,.pointer (some ⟨g,0,none⟩)),(28,.pointer (some ⟨g,0,none⟩)),(29,.slice RA n rcap),(30,.int .i64 ((p:Nat):Int)),(31,.pointer (some pz6)),(32,.slice (ra (ps.getD p 0)) n (rc (ps.getD p 0))),(33,.int .i64 ((k:Nat):Int)),(34,.pointer (some pz7)),(35,.agg #[.bool sz7,.slice Bz7 nz7 cz7]),(36,.int .i64 (scmp (Z (ps.getD p 0) k) 0)),(37,.bool false),(38,.bool false),(41,.int .i64 ((p:Nat):Int)),(42,.pointer (some ⟨g,0,none⟩)),(43,.pointer (some ⟨g,0,none⟩)),(44,.pointer (some ⟨g,0,none⟩)),(45,.slice RA n rcap),(46,.int .i64 ((n:Nat):Int)),(47,.bool false),(48,.int .i64 ((p:Nat):Int)),(49,.int .i64 ((k:Nat):Int)),(50,.bool true),(51,.pointer (some ⟨g,0,none⟩)),(52,.pointer (some ⟨g,0,none⟩)),(53,.pointer (some ⟨g,0,none⟩)),(54,.slice RA n rcap),(55,.int .i64 ((p:Nat):Int)),(56,.pointer (some ⟨g,0,none⟩)),(57,.pointer (some ⟨g,0,none⟩)),(58,.pointer (some ⟨g,0,none⟩)),(59,.slice RA n rcap),(60,.int .i64 ((k:Nat):Int)),(61,.pointer (some ⟨g,0,none⟩)),(62,.pointer (some ⟨g,0,none⟩)),(63,.pointer (some ⟨g,0,none⟩)),(64,.slice RA n rcap),(65,.int .i64 ((k:Nat):Int)),(66,.pointer (some pz13)),(67,.slice (ra (ps.getD k 0)) n (rc (ps.getD k 0))),(68,.pointer (some ⟨g,0,none⟩)),(69,.pointer (some ⟨g,0,none⟩)),(70,.pointer (some ⟨g,0,none⟩)),(71,.slice RA n rcap),(72,.int .i64 ((p:Nat):Int)),(73,.pointer (some pz6)),(74,.slice (ra (ps.getD p 0)) n (rc (ps.getD p 0))),(75,.pointer (some pz6)),(76,.pointer (some pz19)),(77,.pointer (some ⟨g,0,none⟩)),(78,.pointer (some ⟨g,0,none⟩)),(79,.pointer (some ⟨g,1,none⟩)),(80,.slice NA n ncap),(81,.int .i64 ((p:Nat):Int)),(82,.pointer (some ⟨g,0,none⟩)),(83,.pointer (some ⟨g,0,none⟩)),(84,.pointer (some ⟨g,1,none⟩)),(85,.slice NA n ncap),(86,.int .i64 ((k:Nat):Int)),(87,.pointer (some ⟨g,0,none⟩)),(88,.pointer (some ⟨g,0,none⟩)),(89,.pointer (some ⟨g,1,none⟩)),(90,.slice NA n ncap),(91,.int .i64 ((k:Nat):Int)),(92,.pointer (some pz27)),(93,.int .i64 (ns.getD k 0)),(94,.pointer (some ⟨g,0,none⟩)),(95,.pointer (some ⟨g,0,none⟩)),(96,.pointer (some ⟨g,1,none⟩)),(97,.slice NA n ncap),(98,.int .i64 ((p:Nat):Int)),(99,.pointer (some pz28)),(100,.int .i64 (ns.getD p 0)),(101,.pointer (some pz28)),(102,.pointer (some pz34)),(103,.pointer (some ⟨g,0,none⟩)),(104,.pointer (some ⟨g,0,none⟩)),(105,.pointer (some ⟨g,0,none⟩)),(106,.pointer (some ⟨g,2,none⟩)),(107,.bool tu),(108,.bool (!tu)),(109,.pointer (some ⟨g,0,none⟩)),(110,.pointer (some ⟨g,2,none⟩)),(111,.pointer (some ⟨g,0,none⟩)),(112,.pointer (some ⟨g,0,none⟩)),(113,.pointer (some ⟨g,0,none⟩)),(114,.slice RA n rcap),(115,.int .i64 ((k:Nat):Int)),(116,.pointer (some pz46)),(117,.slice (ra (qs.getD k 0)) n (rc (qs.getD k 0))),(118,.pointer (some ⟨g,0,none⟩)),(119,.pointer (some ⟨g,0,none⟩)),(120,.pointer (some ⟨g,0,none⟩)),(121,.slice RA n rcap),(122,.int .i64 ((k:Nat):Int)),(123,.int .i64 ((k+1:Nat):Int)),(124,.slice (if rcap=k+1 then RA else RA.map (·.add ((k+1)*1))) (n-(k+1)) (rcap-(k+1))),(125,.int .i64 ((n-(k+1):Nat):Int)),(126,.int .i64 ((t:Nat):Int)),(127,.bool true),(128,.pointer (some pz47)),(129,.slice (ra (qs.getD (k+1+t) 0)) n (rc (qs.getD (k+1+t) 0))),(130,.slice (ra (qs.getD (k+1+t) 0)) n (rc (qs.getD (k+1+t) 0))),(131,.int .i64 ((k:Nat):Int)),(132,.pointer (some pz48)),(133,.agg #[.bool sz48,.slice Bz48 nz48 cz48]),(134,.int .i64 ((k:Nat):Int)),(135,.int .i64 ((k+1:Nat):Int))] wj rfl ⟨rfl,rfl,rfl,rfl,rfl,rfl,rfl,rfl,rfl,rfl,rfl,rfl,rfl,rfl,rfl,rfl,rfl,rfl,rfl,rfl,rfl,rfl,rfl,rfl,rfl,rfl,rfl,rfl,rfl,rfl,rfl,rfl,rfl,rfl,rfl,rfl,rfl,rfl,rfl,rfl,rfl,rfl,rfl,rfl,rfl,rfl,rfl,rfl,rfl,rfl,rfl,rfl,rfl,rfl,rfl,rfl,rfl,rfl,rfl,rfl,rfl,rfl,rfl,rfl,rfl,rfl,rfl,rfl,rfl,rfl,rfl,rfl,rfl,rfl,rfl,rfl,rfl,rfl,rfl,rfl,rfl,rfl,rfl,rfl,rfl,rfl,rfl,rfl,rfl,rfl,rfl,rfl,rfl,rfl,rfl,rfl,rfl,rfl,rfl,rfl,rfl,rfl,rfl,rfl,rfl,rfl,rfl,rfl,rfl,rfl,rfl,rfl,rfl,rfl,rfl,rfl,rfl,rfl,rfl,rfl,rfl,rfl,rfl,rfl,rfl,rfl,rfl,rfl,rfl,rfl,trivial⟩ (cw_seq (cw_seq ?_))
     by_cases hjn:j<n
     · 
      refine cw_region (mv 2 rfl (pu (v:= .int .i64 ((n:Nat):Int)) rfl (by kernel_rfl) (wl_cmp rfl rfl rfl true (cb_lt_t (a:=j) (b:=n) rfl rfl (by omega)) (by decide) (ne_ (cw_true rfl (cw_skip (eo_then (cw_seq (cw_block (cw_seq ?_))))))))))
      obtain⟨pz63,sz63,Bz63,nz63,cz63,hpz63,ldz63,hKz63,zz63⟩:=(rc_wj).at (hI.per.lt k (by omega)) (show k<n by omega)
      obtain⟨pz64,sz64,Bz64,nz64,cz64,hpz64,ldz64,hKz64,zz64⟩:=(rc_wj).at (hI.per.lt (k+1+t) (by omega)) (show j<n by omega)
      have L65:ln ((V (qs.getD k 0) k)*(V (qs.getD (k+1+t) 0) j))≤34359738368:=Nat.le_trans (ln_mul (zz63.ln_le hKz63) (zz64.ln_le hKz64)) (by decide)
      obtain⟨pz67,sz67,Bz67,nz67,cz67,hpz67,ldz67,hKz67,zz67⟩:=(rc_wj).at (hI.per.lt k (by omega)) (show j<n by omega)
      have L68:ln ((Y (qs.getD (k+1+t) 0) k)*(V (qs.getD k 0) j))≤34359738368:=Nat.le_trans (ln_mul (zz48.ln_le hKz48) (zz67.ln_le hKz67)) (by decide)
      have L70:ln (((V (qs.getD k 0) k)*(V (qs.getD (k+1+t) 0) j))-((Y (qs.getD (k+1+t) 0) k)*(V (qs.getD k 0) j)))≤34359738369:=Nat.le_trans (ln_sub L65 L68) (by decide)
      refine cw_draw mix 17 [] [Is (.slice (ra (qs.getD k 0)) n (rc (qs.getD k 0))),Is (.int .i64 ((k:Nat):Int)),Is (.pointer (some pz63)),Is (.agg #[.bool sz63,.slice Bz63 nz63 cz63]),Is (.slice (ra (qs.getD (k+1+t) 0)) n (rc (qs.getD (k+1+t) 0))),Is (.int .i64 ((j:Nat):Int)),Is (.pointer (some pz64)),Is (.agg #[.bool sz64,.slice Bz64 nz64 cz64]),ZR w.heap.size ((V (qs.getD k 0) k)*(V (qs.getD (k+1+t) 0) j)),Is (.agg #[.bool sz48,.slice Bz48 nz48 cz48]),Is (.slice (ra (qs.getD k 0)) n (rc (qs.getD k 0))),Is (.int .i64 ((j:Nat):Int)),Is (.pointer (some pz67)),Is (.agg #[.bool sz67,.slice Bz67 nz67 cz67]),ZR w.heap.size ((Y (qs.getD (k+1+t) 0) k)*(V (qs.getD k 0) j)),ZR w.heap.size (((V (qs.getD k 0) k)*(V (qs.getD (k+1+t) 0) j))-((Y (qs.getD (k+1+t) 0) k)*(V (qs.getD k 0) j))),PR wj.heap.size 34 [F0,S0]] [[],[],[0,1],[2],[],[],[4,5],[6],[3,7],[],[],[],[10,11],[12],[9,13],[8,14],[]] [[],[],[0,1],[0,1,2],[],[],[4,5],[4,5,6],[0,1,2,3,4,5,6,7],[],[],[],[10,11],[10,11,12],[0,1,2,3,4,5,6,7,8,9,10,11,12,13],[0,1,2,3,4,5,6,7,8,9,10,11,12,13,14],[],[0,1,2,3,4,5,6,7,8,9,10,11,12,13,14,15,16]] rfl
       (obs_cons rfl rfl (hob rfl rfl ?_) (obs_cons rfl rfl (hob rfl rfl ?_) (obs_cons rfl rfl (hob rfl rfl ?_) (obs_cons rfl rfl (hob rfl rfl ?_) (obs_cons rfl rfl (hob rfl rfl ?_) (obs_cons rfl rfl (hob rfl rfl ?_) (obs_cons rfl rfl (hob rfl rfl ?_) (obs_cons rfl rfl (hob rfl rfl ?_) (obs_cons rfl rfl (hob rfl rfl ?_) (obs_cons rfl rfl (hob rfl rfl ?_) (obs_cons rfl rfl (hob rfl rfl ?_) (obs_cons rfl rfl (hob rfl rfl ?_) (obs_cons rfl rfl (hob rfl rfl ?_) (obs_cons rfl rfl (hob rfl rfl ?_) (obs_cons rfl rfl (hob rfl rfl ?_) (obs_cons rfl rfl (hob rfl rfl ?_) (obs_cons rfl rfl (hob rfl rfl ?_) obs_nil))))))))))))))))) ?_
      · 
       intro v72 e73
       have hw2:Bl lb w v72:=hw1.ext e73
       refine deps_nil (mv 1 rfl ?_)
       exact pi_done rfl (Ext.refl _) rfl
      · 
       intro v74 e75
       have hw2:Bl lb w v74:=hw1.ext e75
       refine deps_nil (mv 1 rfl ?_)
       exact pi_done rfl (Ext.refl _) rfl
      · 
       intro v76 e77
       have hw2:Bl lb w v76:=hw1.ext e77
       refine dk rfl rfl (dk rfl rfl (deps_nil (wl_idx rfl rfl rfl elemI aggInt.size k rfl (by omega) pz63 hpz63 (by decide) ?_)))
       exact pi_done rfl (Ext.refl _) rfl
      · 
       intro v88 e89
       have hw2:Bl lb w v88:=hw1.ext e89
       refine dk rfl rfl (deps_nil (wl_load rfl rfl (ldz63 _ e89 _ _ aggInt) (by decide) ?_))
       exact pi_done rfl (Ext.refl _) rfl
      · 
       intro v95 e96
       have hw2:Bl lb w v95:=hw1.ext e96
       refine deps_nil (mv 1 rfl ?_)
       exact pi_done rfl (Ext.refl _) rfl
      · 
       intro v97 e98
       have hw2:Bl lb w v97:=hw1.ext e98
       refine deps_nil (mv 1 rfl ?_)
       exact pi_done rfl (Ext.refl _) rfl
      · 
       intro v99 e100
       have hw2:Bl lb w v99:=hw1.ext e100
       refine dk rfl rfl (dk rfl rfl (deps_nil (wl_idx rfl rfl rfl elemI aggInt.size j rfl (by omega) pz64 hpz64 (by decide) ?_)))
       exact pi_done rfl (Ext.refl _) rfl
      · 
       intro v111 e112
       have hw2:Bl lb w v111:=hw1.ext e112
       refine dk rfl rfl (deps_nil (wl_load rfl rfl (ldz64 _ e112 _ _ aggInt) (by decide) ?_))
       exact pi_done rfl (Ext.refl _) rfl
      · 
       intro v118 e119
       have hw2:Bl lb w v118:=hw1.ext e119
       refine dk rfl rfl (dk rfl rfl (deps_nil ?_))
       have L130:ln ((V (qs.getD k 0) k)*(V (qs.getD (k+1+t) 0) j))≤34359738368:=Nat.le_trans (ln_mul (zz63.ln_le hKz63) (zz64.ln_le hKz64)) (by decide)
       refine wl_call rfl rfl (vs:= [.agg #[.bool sz63,.slice Bz63 nz63 cz63],.agg #[.bool sz64,.slice Bz64 nz64 cz64]]) (by kernel_rfl) (by decide) (g_zint_Mul hw2.size (zz63.ext e119).zi (zz63.le (Nat.le_trans (zz63.ln_le hKz63) (by decide))) (zz64.ext e119).zi (zz64.le (Nat.le_trans (zz64.ln_le hKz64) (by decide)))) ?_
       rintro _ v131 ⟨xr133,rfl,r133,e132⟩
       refine ret_intro ?_
       have hw3:Bl lb w v131:=hw2.ext e132
       obtain⟨s134,A134,n134,c134,rfl,z134⟩:=r133
       exact pi_done rfl e132 ⟨_,_,_,_,rfl,z134⟩
      · 
       intro v135 e136
       have hw2:Bl lb w v135:=hw1.ext e136
       refine deps_nil (lo aggInt (b_g49.ext e136) [.bool sz48,.slice Bz48 nz48 cz48] rfl rfl rfl ?_)
       exact pi_done rfl (Ext.refl _) rfl
      · 
       intro v137 e138
       have hw2:Bl lb w v137:=hw1.ext e138
       refine deps_nil (mv 1 rfl ?_)
       exact pi_done rfl (Ext.refl _) rfl
      · 
       intro v139 e140
       have hw2:Bl lb w v139:=hw1.ext e140
       refine deps_nil (mv 1 rfl ?_)
       exact pi_done rfl (Ext.refl _) rfl
      · 
       intro v141 e142
       have hw2:Bl lb w v141:=hw1.ext e142
       refine dk rfl rfl (dk rfl rfl (deps_nil (wl_idx rfl rfl rfl elemI aggInt.size j rfl (by omega) pz67 hpz67 (by decide) ?_)))
       exact pi_done rfl (Ext.refl _) rfl
      · 
       intro v153 e154
       have hw2:Bl lb w v153:=hw1.ext e154
       refine dk rfl rfl (deps_nil (wl_load rfl rfl (ldz67 _ e154 _ _ aggInt) (by decide) ?_))
       exact pi_done rfl (Ext.refl _) rfl
      · 
       intro v160 e161
       have hw2:Bl lb w v160:=hw1.ext e161
       refine dk rfl rfl (dk rfl rfl (deps_nil ?_))
       have L172:ln ((Y (qs.getD (k+1+t) 0) k)*(V (qs.getD k 0) j))≤34359738368:=Nat.le_trans (ln_mul (zz48.ln_le hKz48) (zz67.ln_le hKz67)) (by decide)
       refine wl_call rfl rfl (vs:= [.agg #[.bool sz48,.slice Bz48 nz48 cz48],.agg #[.bool sz67,.slice Bz67 nz67 cz67]]) (by kernel_rfl) (by decide) (g_zint_Mul hw2.size (z_g49.ext e161).zi (z_g49.le (Nat.le_trans (zz48.ln_le hKz48) (by decide))) (zz67.ext e161).zi (zz67.le (Nat.le_trans (zz67.ln_le hKz67) (by decide)))) ?_
       rintro _ v173 ⟨xr175,rfl,r175,e174⟩
       refine ret_intro ?_
       have hw3:Bl lb w v173:=hw2.ext e174
       obtain⟨s176,A176,n176,c176,rfl,z176⟩:=r175
       exact pi_done rfl e174 ⟨_,_,_,_,rfl,z176⟩
      · 
       intro v177 e178
       have hw2:Bl lb w v177:=hw1.ext e178
       refine deps_cons rfl rfl fun x179 y180 h181 e182 f183=>?_
       obtain⟨s184,A184,n184,c184,rfl,z184⟩:=h181
       have z184:=z184.ext f183
       refine deps_cons rfl rfl fun x185 y186 h187 e188 f189=>?_
       obtain⟨s190,A190,n190,c190,rfl,z190⟩:=h187
       have z190:=z190.ext f189
       refine deps_nil ?_
       have L191:ln (((V (qs.getD k 0) k)*(V (qs.getD (k+1+t) 0) j))-((Y (qs.getD (k+1+t) 0) k)*(V (qs.getD k 0) j)))≤34359738369:=Nat.le_trans (ln_sub L65 L68) (by decide)
       refine wl_call rfl rfl (vs:= [.agg #[.bool s184,.slice A184 n184 c184],.agg #[.bool s190,.slice A190 n190 c190]]) (by kernel_rfl) (by decide) (g_zint_Sub hw2.size z184.zi (z184.le (lx_ L65 rfl)) z190.zi (z190.le (lx_ L68 rfl))) ?_
       rintro _ v192 ⟨xr194,rfl,r194,e193⟩
       refine ret_intro ?_
       have hw3:Bl lb w v192:=hw2.ext e193
       obtain⟨s195,A195,n195,c195,rfl,z195⟩:=r194
       exact pi_done rfl e193 ⟨_,_,_,_,rfl,z195⟩
      · 
       intro v196 e197
       have hw2:Bl lb w v196:=hw1.ext e197
       refine deps_nil (wl_alloc rfl (z:= .agg #[F0,S0]) (vs:= [F0,S0]) (fun _=>by kernel_rfl) rfl (by decide) fun g198 v199 nb=>?_)
       exact pi_done rfl nb.ext ⟨_,rfl,by rw [←nb.at_];exact e197.size,nb.bk⟩
      · 
       intro v200 e201
       have hw2:Bl lb w v200:=hw1.ext e201
       refine dk rfl rfl (dk rfl rfl (dk rfl rfl (dk rfl rfl (dk rfl rfl (dk rfl rfl (dk rfl rfl (dk rfl rfl (deps_cons rfl rfl fun x242 y243 h244 e245 f246=>?_))))))))
       obtain⟨s247,A247,n247,c247,rfl,z247⟩:=h244
       have z247:=z247.ext f246
       refine dk rfl rfl (dk rfl rfl (dk rfl rfl (dk rfl rfl (dk rfl rfl (deps_cons rfl rfl fun x273 y274 h275 e276 f277=>?_)))))
       obtain⟨s278,A278,n278,c278,rfl,z278⟩:=h275
       have z278:=z278.ext f277
       refine deps_cons rfl rfl fun x279 y280 h281 e282 f283=>?_
       obtain⟨s284,A284,n284,c284,rfl,z284⟩:=h281
       have z284:=z284.ext f283
       refine deps_cons rfl rfl fun x285 y286 h287 e288 f289=>?_
       obtain⟨g290,rfl,ge292,hb291⟩:=h287
       have hb291:=hb291.ext f289
       have q293:g49<g290:=Nat.lt_of_lt_of_le b_g49.lt ge292
       have ne294:∀p:Addr,RA=some p→p.block≠g290:=fun p hp=>by have:=((o_RAwj).block p hp).2;have:=ge292;omega
       have ne295:∀p:Addr,NA=some p→p.block≠g290:=fun p hp=>by have:=((o_NAwj).block p hp).2;have:=ge292;omega
       have nr296:∀r,r<n→∀p:Addr,ra r=some p→p.block≠g290:=fun r hr p hp=>by have:=((rc_wj).lt r hr p hp).2;have:=ge292;omega
       have ge292:w.heap.size≤g290:=Nat.le_trans hw1.size ge292
       refine deps_nil (wl_stored rfl rfl rfl aggInt rfl hb291 (bq rfl) rfl [.bool s284,.slice A284 n284 c284] rfl fun v297 hb299 u300 hs301=>?_)
       have hw3:Bl lb w v297:=hw2.upd u300 (Nat.le_trans hlb ge292)
       refine wl_nil (eo_np (eo_then ?_))
       have hq:=hMV.quot hI.last hI.ne (by rw [hMV.old (Nat.le_refl _) (by omega) (Nat.le_refl _) (by omega) (Or.inl rfl)];exact hDb) (by omega) (by omega) hj1 hjn (hM.old (a:=k+1+t) (b:=k) (by omega) (by omega) (Nat.le_refl _) (by omega) (Or.inr (Or.inr ⟨rfl,Or.inl rfl⟩)))
       have hLq:ln (bm (pr X qs) (k+1) (k+1+t) j)≤17179869184:=Nat.le_trans (ln_bm hn (pr_ln hI.per hX) (by omega) (by omega) hjn) (by decide)
       obtain⟨pz307,sz307,Bz307,nz307,cz307,hpz307,ldz307,hKz307,zz307⟩:=(((rc_wj.ext e201).updT hb291 u300 nr296)).at (hI.per.lt (k+1+t) (by omega)) (show j<n by omega)
       refine cw_draw mix 12 [9,10] [Is (.slice (ra (qs.getD (k+1+t) 0)) n (rc (qs.getD (k+1+t) 0))),Is (.int .i64 ((j:Nat):Int)),Is (.agg #[.bool s284,.slice A284 n284 c284]),Is (.pointer (some ⟨g,0,none⟩)),Is (.pointer (some ⟨g,0,none⟩)),Is (.pointer (some ⟨g,3,none⟩)),Is (.agg #[.bool sl,.slice Al nl cl]),T2 (ZR w.heap.size (bm (pr X qs) (k+1) (k+1+t) j)) (Is (.int .i64 0)),T2 (ZR w.heap.size (bm (pr X qs) (k+1) (k+1+t) j)) (Is (.int .i64 0)),ZR w.heap.size (bm (pr X qs) (k+1) (k+1+t) j),Is (.int .i64 0),Is (.pointer (some pz307))] [[],[],[],[],[3],[4],[5],[2,6],[7],[8],[8],[0,1]] [[],[],[],[],[3],[3,4],[3,4,5],[2,3,4,5,6],[2,3,4,5,6,7],[2,3,4,5,6,7,8],[2,3,4,5,6,7,8],[0,1,2,3,4,5,6,7,8,9],[0,1,2,3,4,5,6,7,8,9,11]] rfl
        (obs_cons rfl rfl (hob rfl rfl ?_) (obs_cons rfl rfl (hob rfl rfl ?_) (obs_cons rfl rfl (hob rfl rfl ?_) (obs_cons rfl rfl (hob rfl rfl ?_) (obs_cons rfl rfl (hob rfl rfl ?_) (obs_cons rfl rfl (hob rfl rfl ?_) (obs_cons rfl rfl (hob rfl rfl ?_) (obs_cons rfl rfl (hob rfl rfl ?_) (obs_cons rfl rfl (hob rfl rfl ?_) (obs_float rfl rfl (fob rfl ?_) (obs_float rfl rfl (fob rfl ?_) (obs_cons rfl rfl (hob rfl rfl ?_) obs_nil)))))))))))) ?_
       · 
        intro v308 e309
        have hw4:Bl lb w v308:=hw3.ext e309
        refine deps_nil (mv 1 rfl ?_)
        exact pi_done rfl (Ext.refl _) rfl
       · 
        intro v310 e311
        have hw4:Bl lb w v310:=hw3.ext e311
        refine deps_nil (mv 1 rfl ?_)
        exact pi_done rfl (Ext.refl _) rfl
       · 
        intro v312 e313
        have hw4:Bl lb w v312:=hw3.ext e313
        refine deps_nil (lo aggInt (hb299.ext e313) [.bool s284,.slice A284 n284 c284] rfl rfl rfl ?_)
        exact pi_done rfl (Ext.refl _) rfl
       · 
        intro v314 e315
        have hw4:Bl lb w v314:=hw3.ext e315
        refine deps_nil (mv 1 rfl ?_)
        exact pi_done rfl (Ext.refl _) rfl
       · 
        intro v316 e317
        have hw4:Bl lb w v316:=hw3.ext e317
        refine dk rfl rfl (deps_nil (pf g 0 rfl (by kernel_rfl) ?_))
        exact pi_done rfl (Ext.refl _) rfl
       · 
        intro v323 e324
        have hw4:Bl lb w v323:=hw3.ext e324
        refine dk rfl rfl (deps_nil (pf g 3 rfl (by kernel_rfl) ?_))
        exact pi_done rfl (Ext.refl _) rfl
       · 
        intro v330 e331
        have hw4:Bl lb w v330:=hw3.ext e331
        refine dk rfl rfl (deps_nil (lo aggInt (((b_g.ext e201).updN u300 (by omega)).ext e331) [.bool sl,.slice Al nl cl] rfl rfl rfl ?_))
        exact pi_done rfl (Ext.refl _) rfl
       · 
        intro v337 e338
        have hw4:Bl lb w v337:=hw3.ext e338
        refine dk rfl rfl (dk rfl rfl (deps_nil (wl_call rfl rfl (vs:= [.agg #[.bool s284,.slice A284 n284 c284],.agg #[.bool sl,.slice Al nl cl]]) (by kernel_rfl) (by decide) ((g_zint_Exact hw4.size ((z284.updT hb291 u300).ext e338).zi (z284.le (lx_ L70 rfl)) (((z_g_1.ext e201).updT hb291 u300).ext e338).zi (z_g_1.le (lx_ hLz rfl)) hI.ne ⟨_,hq.1⟩).mono (Gv.imp (T2.imp (fun _ _ h=>ZR.cast h hq.2) Is.imp))) ?_)))
        rintro _ v349 ⟨xr351,rfl,r351,e350⟩
        refine ret_intro ?_
        have hw5:Bl lb w v349:=hw4.ext e350
        obtain⟨_,_,rfl,⟨s353,A353,n353,c353,rfl,z353⟩,rfl⟩:=r351
        exact pi_done rfl e350 ⟨_,_,rfl,⟨_,_,_,_,rfl,z353⟩,rfl⟩
       · 
        intro v354 e355
        have hw4:Bl lb w v354:=hw3.ext e355
        refine deps_cons rfl rfl fun x356 y357 h358 e359 f360=>?_
        obtain⟨_,_,rfl,⟨s362,A362,n362,c362,rfl,z362⟩,rfl⟩:=h358
        have z362:=z362.ext f360
        refine deps_nil (mv 1 rfl ?_)
        exact pi_done rfl (Ext.refl _) ⟨_,_,rfl,⟨_,_,_,_,rfl,z362⟩,rfl⟩
       · 
        intro v363 e364
        have hw4:Bl lb w v363:=hw3.ext e364
        refine deps_cons rfl rfl fun x365 y366 h367 e368 f369=>?_
        obtain⟨_,_,rfl,⟨s371,A371,n371,c371,rfl,z371⟩,rfl⟩:=h367
        have z371:=z371.ext f369
        refine deps_nil ?_
        exact⟨.agg #[.bool s371,.slice A371 n371 c371],rfl,rfl,fun _=>by kernel_rfl,⟨_,_,_,_,rfl,z371⟩⟩
       · 
        intro v372 e373
        have hw4:Bl lb w v372:=hw3.ext e373
        refine deps_cons rfl rfl fun x374 y375 h376 e377 f378=>?_
        obtain⟨_,_,rfl,⟨s380,A380,n380,c380,rfl,z380⟩,rfl⟩:=h376
        have z380:=z380.ext f378
        refine deps_nil ?_
        exact⟨.int .i64 0,rfl,rfl,fun _=>by kernel_rfl,rfl⟩
       · 
        intro v381 e382
        have hw4:Bl lb w v381:=hw3.ext e382
        refine dk rfl rfl (dk rfl rfl (deps_nil (wl_idx rfl rfl rfl elemI aggInt.size j rfl (by omega) pz307 hpz307 (by decide) ?_)))
        exact pi_done rfl (Ext.refl _) rfl
       · 
        intro v393 e394
        have hw4:Bl lb w v393:=hw3.ext e394
        refine dk rfl rfl (dk rfl rfl (dk rfl rfl (dk rfl rfl (dk rfl rfl (dk rfl rfl (dk rfl rfl (deps_cons rfl rfl fun x430 y431 h432 e433 f434=>?_)))))))
        obtain⟨_,_,rfl,⟨s436,A436,n436,c436,rfl,z436⟩,rfl⟩:=h432
        have z436:=z436.ext f434
        refine deps_cons rfl rfl fun x437 y438 h439 e440 f441=>?_
        obtain⟨_,_,rfl,⟨s443,A443,n443,c443,rfl,z443⟩,rfl⟩:=h439
        have z443:=z443.ext f441
        refine deps_cons rfl rfl fun x444 y445 h446 e447 f448=>?_
        obtain⟨s449,A449,n449,c449,rfl,z449⟩:=h446
        have z449:=z449.ext f448
        refine dk rfl rfl (dk rfl rfl (deps_nil ?_))
        have rt460:=(((rc_wj.ext e201).updT hb291 u300 nr296).ext e394)
        obtain⟨us462,own463⟩:=rt460.own (hI.per.lt (k+1+t) (by omega))
        refine wl_setR (e:=⟨s449,A449,n449,c449⟩) (z:=bm (pr X qs) (k+1) (k+1+t) j) rfl rfl rfl rt460 (hI.per.lt (k+1+t) (by omega)) (show j<n by omega) hpz307 (Zr.mono z449 (Nat.zero_le _)) (z449.le (lx_ hLq rfl)) fun v461 rc464 uo465=>?_
        have hw5:Bl lb w v461:=hw4.updO uo465 (fun p hp=>(own463.block p hp).1)
        refine wl_nil (eo_np (eo_block_normal (eo_then (cw_region (mv 1 rfl (wl_ar rfl rfl rfl ((j+1:Nat):Int) (ai_add (a:=j) (b:=1) rfl rfl (by omega)) (by decide) (mv 1 rfl (wl_nil (eo_round (⟨v461,j+1,ent V (qs.getD (k+1+t) 0) j (bm (pr X qs) (k+1) (k+1+t) j)⟩:World×Nat×Mx) ⟨hw5,(by omega),((((b_g.ext e201).updN u300 (by omega)).ext e394).updO uo465 (hA.rg (qs.getD (k+1+t) 0) (hI.per.lt (k+1+t) (by omega)))),((((z_g_1.ext e201).updT hb291 u300).ext e394).updOT own463 uo465),((((b_g49.ext e201).updN u300 (by omega)).ext e394).updO uo465 (nr57 (qs.getD (k+1+t) 0) (hI.per.lt (k+1+t) (by omega)))),((((z_g49.ext e201).updT hb291 u300).ext e394).updOT own463 uo465),((((o_RAwj.ext e201).upd u300 ne294).ext e394).updO uo465 (fun p q hp hq e=>hA.Rr (qs.getD (k+1+t) 0) (hI.per.lt (k+1+t) (by omega)) q p hq hp e.symm)),((((o_NAwj.ext e201).upd u300 ne295).ext e394).updO uo465 (fun p q hp hq e=>hA.Nr (qs.getD (k+1+t) 0) (hI.per.lt (k+1+t) (by omega)) q p hq hp e.symm)),rc464,(by omega),(hMV.next hI.per (by omega) (by omega) hj1 hjn rfl)⟩ (show n-(j+1)<n-j by omega) rfl ⟨rfl,rfl,rfl,rfl,rfl,rfl,rfl,rfl,rfl,rfl,rfl,rfl,rfl,rfl,rfl,rfl,rfl,rfl,rfl,rfl,rfl,rfl,rfl,rfl,rfl,rfl,rfl,rfl,rfl,rfl,rfl,rfl,rfl,rfl,rfl,rfl,rfl,rfl,rfl,rfl,rfl,rfl,rfl,rfl,rfl,rfl,rfl,rfl,rfl,rfl,rfl,rfl,rfl,rfl,rfl,rfl,rfl,rfl,rfl,rfl,rfl,rfl,rfl,rfl,rfl,rfl,rfl,rfl,rfl,rfl,rfl,rfl,rfl,rfl,rfl,rfl,rfl,rfl,rfl,rfl,rfl,rfl,rfl,rfl,rfl,rfl,rfl,rfl,rfl,rfl,rfl,rfl,rfl,rfl,rfl,rfl,rfl,rfl,rfl,rfl,rfl,rfl,rfl,rfl,rfl,rfl,rfl,rfl,rfl,rfl,rfl,rfl,rfl,rfl,rfl,rfl,rfl,rfl,rfl,rfl,rfl,rfl,rfl,rfl,rfl,rfl,rfl,rfl,rfl,rfl,trivial⟩)))))))))
     · 
      refine cw_region (mv 2 rfl (pu (v:= .int .i64 ((n:Nat):Int)) rfl (by kernel_rfl) (wl_cmp rfl rfl rfl false (cb_lt_f (a:=j) (b:=n) rfl rfl (by omega)) (by decide) (ne_ (cw_false rfl (cw_exit (eo_thenX (eo_loopX (eo_block_here (eo_then (cw_region (mv 2 rfl (pu (v:= .agg #[F0,S0]) rfl (by kernel_rfl) ?_)))))))))))))
      obtain⟨pz466,sz466,Bz466,nz466,cz466,hpz466,ldz466,hKz466,zz466⟩:=(rc_wj).at (hI.per.lt (k+1+t) (by omega)) (show k<n by omega)
      refine wl_idx rfl rfl rfl elemI aggInt.size k rfl (by omega) pz466 hpz466 (by decide) ?_
      have rt467:=rc_wj
      obtain⟨us469,own470⟩:=rt467.own (hI.per.lt (k+1+t) (by omega))
      refine wl_setR (e:=⟨false,none,0,0⟩) (z:=0) rfl rfl rfl rt467 (hI.per.lt (k+1+t) (by omega)) (show k<n by omega) hpz466 (Zr.mono (Zr.zero (w:=wj) (base:=w.heap.size)) (Nat.zero_le _)) (Nat.zero_le _) fun v468 rc471 uo472=>?_
      have hw2:Bl lb w v468:=hw1.updO uo472 (fun p hp=>(own470.block p hp).1)
      refine wl_nil (eo_block_normal (eo_then (cw_region (wl_ar rfl rfl rfl ((t+1:Nat):Int) (ai_add (a:=t) (b:=1) rfl rfl (by omega)) (by decide) (mv 1 rfl (wl_nil (eo_round (⟨v468,t+1,ent V (qs.getD (k+1+t) 0) k 0⟩:World×Nat×Mx) ⟨hw2,(by omega),(b_g.updO uo472 (hA.rg (qs.getD (k+1+t) 0) (hI.per.lt (k+1+t) (by omega)))),(z_g_1.updOT own470 uo472),(o_RAwj.updO uo472 (fun p q hp hq e=>hA.Rr (qs.getD (k+1+t) 0) (hI.per.lt (k+1+t) (by omega)) q p hq hp e.symm)),(o_NAwj.updO uo472 (fun p q hp hq e=>hA.Nr (qs.getD (k+1+t) 0) (hI.per.lt (k+1+t) (by omega)) q p hq hp e.symm)),rc471,(by have h9:Mid n k (pr X qs) qs V (k+1+t) n:=(show j=n by omega)▸hMV;exact h9.row hI.per (by omega) (by omega) 0)⟩ (show (n-(k+1))-(t+1)<(n-(k+1))-t by omega) rfl ⟨rfl,rfl,rfl,rfl,rfl,rfl,rfl,rfl,rfl,rfl,rfl,rfl,rfl,rfl,rfl,rfl,rfl,rfl,rfl,rfl,rfl,rfl,rfl,rfl,rfl,rfl,rfl,rfl,rfl,rfl,rfl,rfl,rfl,rfl,rfl,rfl,rfl,rfl,rfl,rfl,rfl,rfl,rfl,rfl,rfl,rfl,rfl,rfl,rfl,rfl,rfl,rfl,rfl,rfl,rfl,rfl,rfl,rfl,rfl,rfl,rfl,rfl,rfl,rfl,rfl,rfl,rfl,rfl,rfl,rfl,rfl,rfl,rfl,rfl,rfl,rfl,rfl,rfl,rfl,rfl,rfl,rfl,rfl,rfl,rfl,rfl,rfl,rfl,rfl,rfl,rfl,rfl,rfl,rfl,rfl,rfl,rfl,rfl,rfl,rfl,rfl,rfl,rfl,rfl,rfl,rfl,rfl,rfl,rfl,rfl,rfl,rfl,rfl,rfl,rfl,rfl,rfl,rfl,trivial⟩)))))))
    · 
     refine cw_region (wl_cmp rfl rfl rfl false (cb_lt_f (a:=t) (b:=n-(k+1)) rfl rfl (by omega)) (by decide) (ne_ (cw_seq (cw_false rfl (cw_exit (eo_thenX (eo_loopX (eo_block_here (eo_then (sr (mv 3 rfl ?_)))))))))))
     obtain⟨pz473,sz473,Bz473,nz473,cz473,hpz473,ldz473,hKz473,zz473⟩:=(rc_wt).at (hI.per.lt k (by omega)) (show k<n by omega)
     refine wl_idx rfl rfl rfl elemI aggInt.size k rfl (by omega) pz473 hpz473 (by decide) (wl_load rfl rfl (ldz473 _ (Ext.refl _) _ _ aggInt) (by decide) (pf g 0 rfl (by kernel_rfl) (pf g 3 rfl (by kernel_rfl) ?_)))
     have hb475:=b_g
     refine wl_stored rfl rfl rfl aggInt rfl hb475 (bq rfl) rfl [.slice RA n rcap,.slice NA n ncap,.bool (!tu),.bool sz473,.slice Bz473 nz473 cz473,.int .i64 ((k:Nat):Int)] rfl fun v474 hb476 u477 hs478=>?_
     have hw2:Bl lb w v474:=hw1.upd u477 hA.lg
     refine ne_ (sr (mv 1 rfl (pf g 0 rfl (by kernel_rfl) (pf g 5 rfl (by kernel_rfl) (wl_load rfl rfl (load_cell cellInt hb476 rfl) (by decide) (wl_ar rfl rfl rfl ((k+1:Nat):Int) (ai_add (a:=k) (b:=1) rfl rfl (by omega)) (by decide) (pf g 0 rfl (by kernel_rfl) (pf g 5 rfl (by kernel_rfl) (wl_stored1 rfl rfl rfl szInt rfl hb476 (bq rfl) rfl [.slice RA n rcap,.slice NA n ncap,.bool (!tu),.bool sz473,.slice Bz473 nz473 cz473,.int .i64 ((k+1:Nat):Int)] rfl fun v479 hb481 u482 hs483=>?_)))))))))
     have hw3:Bl lb w v479:=hw2.upd u482 hA.lg
     refine ne_ (sr (mv 1 rfl (ne_ (cw_ret (eo_ret [.bool true] rfl ⟨rfl,trivial⟩ ?_)))))
     have hM9:Mid n k (pr X qs) qs Y n (k+1):=(show k+1+t=n by omega)▸hM
     exact⟨hw3,Or.inr ⟨qs,Y,!tu,Y (qs.getD k 0) k,rfl,⟨_,_,_,_,_,hb481,((zz473.updT hb475 u477).updT hb476 u482),((o_RAwt.upd u477 hA.Rg).upd u482 hA.Rg),((o_NAwt.upd u477 hA.Ng).upd u482 hA.Ng),((rc_wt.updT hb475 u477 hA.rg).updT hb476 u482 hA.rg)⟩,hI.next (by omega) hM9 (by rw [hM9.old (Nat.le_refl _) (by omega) (Nat.le_refl _) (by omega) (Or.inl rfl)];exact hDb)⟩⟩
   · 
    refine cw_region (mv 2 rfl (wl_cmp rfl rfl rfl false (cb_ne_f (a:=p) (b:=k) rfl rfl (by omega)) (by decide) (ne_ (cw_false rfl (cw_skip (eo_then (cw_seq ?_)))))))
    obtain⟨qs,hqs⟩:∃qs,qs=ps:=⟨_,rfl⟩
    have hI:Inv n X k qs Z tu z:=by rw [hqs];exact hI0
    have hD:Z (qs.getD k 0) k≠0:=by rw [hqs];have e:p=k:=(by omega);rw [e] at hzp;exact hzp
    have ow484:Own v8 lb 22 1 RA n rcap (qs.map (rwv ra rc n)):=by rw [hqs];exact (o_RAwp.ext e9)
    have hDb:bm (pr X qs) k k k≠0:=by rw [←hI.ent k k (Nat.le_refl _) (by omega) (Nat.le_refl _) (by omega)];exact hD
    refine cw_region (mv 1 rfl (pf g 0 rfl (by kernel_rfl) (pf g 0 rfl (by kernel_rfl) (wl_load rfl rfl (load_cell cellRows (b_g.ext e9) rfl) (by decide) (mv 1 rfl ?_)))))
    obtain⟨pz485,hpz485,hcz485⟩:=(ow484).rowAt (i:=k) (by omega)
    refine wl_idx rfl rfl rfl unRows szInts k rfl (by omega) pz485 hpz485 (by decide) (wl_load rfl rfl (load_cell1 cellInts hcz485) (by decide) (mv 1 rfl (ne_ (cw_seq (sr (mv 1 rfl (pf g 0 rfl (by kernel_rfl) (pf g 0 rfl (by kernel_rfl) (wl_load rfl rfl (load_cell cellRows (b_g.ext e9) rfl) (by decide) (mv 1 rfl (wl_ar rfl rfl rfl ((k+1:Nat):Int) (ai_add (a:=k) (b:=1) rfl rfl (by omega)) (by decide) (wl_slice rfl rfl unRows szInts (lo:=k+1) (hi:=n) rfl rfl (by omega) hcap (v:= .slice (if rcap=k+1 then RA else RA.map (·.add ((k+1)*1))) (n-(k+1)) (rcap-(k+1))) rfl (by decide) (pu (v:= .int .i64 ((n-(k+1):Nat):Int)) rfl (by kernel_rfl) ?_)))))))))))))
    refine mv 1 rfl (ne_ (cw_block ?_))
    refine cw_loop (T:=World×Nat×Mx) (fun⟨wt,t,Y⟩=> [(0,.pointer (some ⟨g,0,none⟩)),(1,.int .i64 ((k:Nat):Int)),(4,.bool false),(5,.int .i64 ((k:Nat):Int)),(6,.int .i64 ((p:Nat):Int)),(7,.slice (ra (qs.getD k 0)) n (rc (qs.getD k 0))),(13,.pointer (some ⟨g,0,none⟩)),(14,.pointer (some ⟨g,0,none⟩)),(15,.pointer (some ⟨g,5,none⟩)),(16,.int .i64 ((k:Nat):Int)),(17,.int .i64 ((k:Nat):Int)),(18,.int .i64 ((p:Nat):Int)),(19,.pointer (some ⟨g,0,none⟩)),(20,.pointer (some ⟨g,0,none⟩)),(21,.pointer (some ⟨g,0,none⟩)),(22,.slice RA n rcap),(23,.int .i64 ((n:Nat):Int)),(24,.bool true),(25,.bool true),(26,.pointer (some ⟨g,0,none⟩)),(27,.pointer (some ⟨g,0,none⟩)),(28,.pointer (some ⟨g,0,none⟩)),(29,.slice RA n rcap),(30,.int .i64 ((p:Nat):Int)),(31,.pointer (some pz6)),(32,.slice (ra (ps.getD p 0)) n (rc (ps.getD p 0))),(33,.int .i64 ((k:Nat):Int)),(34,.pointer (some pz7)),(35,.agg #[.bool sz7,.slice Bz7 nz7 cz7]),(36,.int .i64 (scmp (Z (ps.getD p 0) k) 0)),(37,.bool false),(38,.bool false),(41,.int .i64 ((p:Nat):Int)),(42,.pointer (some ⟨g,0,none⟩)),(43,.pointer (some ⟨g,0,none⟩)),(44,.pointer (some ⟨g,0,none⟩)),(45,.slice RA n rcap),(46,.int .i64 ((n:Nat):Int)),(47,.bool false),(48,.int .i64 ((p:Nat):Int)),(49,.int .i64 ((k:Nat):Int)),(50,.bool false),(111,.pointer (some ⟨g,0,none⟩)),(112,.pointer (some ⟨g,0,none⟩)),(113,.pointer (some ⟨g,0,none⟩)),(114,.slice RA n rcap),(115,.int .i64 ((k:Nat):Int)),(116,.pointer (some pz485)),(117,.slice (ra (qs.getD k 0)) n (rc (qs.getD k 0))),(118,.pointer (some ⟨g,0,none⟩)),(119,.pointer (some ⟨g,0,none⟩)),(120,.pointer (some ⟨g,0,none⟩)),(121,.slice RA n rcap),(122,.int .i64 ((k:Nat):Int)),(123,.int .i64 ((k+1:Nat):Int)),(124,.slice (if rcap=k+1 then RA else RA.map (·.add ((k+1)*1))) (n-(k+1)) (rcap-(k+1))),(125,.int .i64 ((n-(k+1):Nat):Int)),(126,.int .i64 ((t:Nat):Int))]) (fun⟨wt,t,Y⟩=>wt) (fun⟨wt,t,Y⟩=>(Bl lb w wt)∧(t≤n-(k+1))∧(Bk wt g 75 [.slice RA n rcap,.slice NA n ncap,.bool tu,.bool sl,.slice Al nl cl,.int .i64 ((k:Nat):Int)])∧(Zr wt 0 sl Al nl cl (z))∧(Own wt lb 22 1 RA n rcap (qs.map (rwv ra rc n)))∧(Own wt lb 3 1 NA n ncap (ns.map I64))∧(Rcs 17179869184 lb n n ra rc wt Y)∧(Mid n k (pr X qs) qs Y (k+1+t) (k+1))) (fun⟨wt,t,Y⟩=>(n-(k+1))-t)
     (⟨v8,0,Z⟩:World×Nat×Mx) ⟨hw2,(by omega),(b_g.ext e9),(z_g_1.ext e9),ow484,(o_NAwp.ext e9),(rc_wp.ext e9),(Mid.start hI)⟩ rfl ⟨rfl,rfl,rfl,rfl,rfl,rfl,rfl,rfl,rfl,rfl,rfl,rfl,rfl,rfl,rfl,rfl,rfl,rfl,rfl,rfl,rfl,rfl,rfl,rfl,rfl,rfl,rfl,rfl,rfl,rfl,rfl,rfl,rfl,rfl,rfl,rfl,rfl,rfl,rfl,rfl,rfl,rfl,rfl,rfl,rfl,rfl,rfl,rfl,rfl,rfl,rfl,rfl,rfl,rfl,rfl,rfl,rfl,rfl,trivial⟩ ?_
    rintro⟨wt,t,Y⟩ ⟨hw1,hi_t,b_g,z_g_1,o_RAwt,o_NAwt,rc_wt,hM⟩
    refine cw_re [(0,.pointer (some ⟨g,0,none⟩)),(1,.int .i64 ((k:Nat):Int)),(4,.bool false),(5,.int .i64 ((k:Nat):Int)),(6,.int .i64 ((p:Nat):Int)),(7,.slice (ra (qs.getD k 0)) n (rc (qs.getD k 0))),(13,.pointer (some ⟨g,0,none⟩)),(14,.pointer (some ⟨g,0,none⟩)),(15,.pointer (some ⟨g,5,none⟩)),(16,.int .i64 ((k:Nat):Int)),(17,.int .i64 ((k:Nat):Int)),(18,.int .i64 ((p:Nat):Int)),(19,.pointer (some ⟨g,0,none⟩)),(20,.pointer (some ⟨g,0,none⟩)),(21,.pointer (some ⟨g,0,none⟩)),(22,.slice RA n rcap),(23,.int .i64 ((n:Nat):Int)),(24,.bool true),(25,.bool true),(26,.pointer (some ⟨g,0,none⟩)),(27,.pointer (some ⟨g,0,none⟩)),(28,.pointer (some ⟨g,0,none⟩)),(29,.slice RA n rcap),(30,.int .i64 ((p:Nat):Int)),(31,.pointer (some pz6)),(32,.slice (ra (ps.getD p 0)) n (rc (ps.getD p 0))),(33,.int .i64 ((k:Nat):Int)),(34,.pointer (some pz7)),(35,.agg #[.bool sz7,.slice Bz7 nz7 cz7]),(36,.int .i64 (scmp (Z (ps.getD p 0) k) 0)),(37,.bool false),(38,.bool false),(41,.int .i64 ((p:Nat):Int)),(42,.pointer (some ⟨g,0,none⟩)),(43,.pointer (some ⟨g,0,none⟩)),(44,.pointer (some ⟨g,0,none⟩)),(45,.slice RA n rcap),(46,.int .i64 ((n:Nat):Int)),(47,.bool false),(48,.int .i64 ((p:Nat):Int)),(49,.int .i64 ((k:Nat):Int)),(50,.bool false),(111,.pointer (some ⟨g,0,none⟩)),(112,.pointer (some ⟨g,0,none⟩)),(113,.pointer (some ⟨g,0,none⟩)),(114,.slice RA n rcap),(115,.int .i64 ((k:Nat):Int)),(116,.pointer (some pz485)),(117,.slice (ra (qs.getD k 0)) n (rc (qs.getD k 0))),(118,.pointer (some ⟨g,0,none⟩)),(119,.pointer (some ⟨g,0,none⟩)),(120,.pointer (some ⟨g,0,none⟩)),(121,.slice RA n rcap),(122,.int .i64 ((k:Nat):Int)),(123,.int .i64 ((k+1:Nat):Int)),(124,.slice (if rcap=k+1 then RA else RA.map (·.add ((k+1)*1))) (n-(k+1)) (rcap-(k+1))),(125,.int .i64 ((n-(k+1):Nat):Int)),(126,.int .i64 ((t:Nat):Int))] wt rfl ⟨rfl,rfl,rfl,rfl,rfl,rfl,rfl,rfl,rfl,rfl,rfl,rfl,rfl,rfl,rfl,rfl,rfl,rfl,rfl,rfl,rfl,rfl,rfl,rfl,rfl,rfl,rfl,rfl,rfl,rfl,rfl,rfl,rfl,rfl,rfl,rfl,rfl,rfl,rfl,rfl,rfl,rfl,rfl,rfl,rfl,rfl,rfl,rfl,rfl,rfl,rfl,rfl,rfl,rfl,rfl,rfl,rfl,rfl,trivial⟩ (cw_seq ?_)
    by_cases htn:t<n-(k+1)
    · 
     refine cw_region (wl_cmp rfl rfl rfl true (cb_lt_t (a:=t) (b:=n-(k+1)) rfl rfl (by omega)) (by decide) (ne_ (cw_seq (cw_true rfl (cw_skip (eo_then (cw_seq (cw_block (sr ?_)))))))))
     obtain⟨pz486,hpz486,hcz486⟩:=(o_RAwt).rowTail (lo:=k+1) (i:=t) (by omega)
     refine wl_idx rfl rfl rfl unRows szInts t rfl (by omega) pz486 hpz486 (by decide) (wl_load rfl rfl (load_cell1 cellInts hcz486) (by decide) (mv 1 rfl (ne_ (sr (mv 2 rfl ?_)))))
     obtain⟨pz487,sz487,Bz487,nz487,cz487,hpz487,ldz487,hKz487,zz487⟩:=(rc_wt).at (hI.per.lt (k+1+t) (by omega)) (show k<n by omega)
     refine wl_idx rfl rfl rfl elemI aggInt.size k rfl (by omega) pz487 hpz487 (by decide) (wl_load rfl rfl (ldz487 _ (Ext.refl _) _ _ aggInt) (by decide) (wl_alloc rfl (z:= .agg #[F0,S0]) (vs:= [F0,S0]) (fun _=>by kernel_rfl) rfl (by decide) fun g488 v489 nb=>?_))
     have hb491:=nb.bk
     have ge492:w.heap.size≤g488:=by rw [←nb.at_];exact hw1.size
     have q493:g<g488:=by rw [←nb.at_];exact b_g.lt
     have ne494:∀p:Addr,RA=some p→p.block≠g488:=fun p hp=>by have:=((o_RAwt).block p hp).2;have:=nb.at_;omega
     have ne495:∀p:Addr,NA=some p→p.block≠g488:=fun p hp=>by have:=((o_NAwt).block p hp).2;have:=nb.at_;omega
     have nr496:∀r,r<n→∀p:Addr,ra r=some p→p.block≠g488:=fun r hr p hp=>by have:=((rc_wt).lt r hr p hp).2;have:=nb.at_;omega
     have e490:=nb.ext
     clear nb
     have hw2:Bl lb w v489:=hw1.ext e490
     refine wl_stored rfl rfl rfl aggInt rfl hb491 (bq rfl) rfl [.bool sz487,.slice Bz487 nz487 cz487] rfl fun v497 hb499 u500 hs501=>?_
     have hw3:Bl lb w v497:=hw2.upd u500 (Nat.le_trans hlb ge492)
     refine ne_ (cw_seq (sr (mv 1 rfl (wl_ar rfl rfl rfl ((k+1:Nat):Int) (ai_add (a:=k) (b:=1) rfl rfl (by omega)) (by decide) (mv 1 rfl (ne_ (cw_block ?_)))))))
     refine cw_loop (T:=World×Nat×Mx) (fun⟨wj,j,V⟩=> [(0,.pointer (some ⟨g,0,none⟩)),(1,.int .i64 ((k:Nat):Int)),(4,.bool false),(5,.int .i64 ((k:Nat):Int)),(6,.int .i64 ((p:Nat):Int)),(7,.slice (ra (qs.getD k 0)) n (rc (qs.getD k 0))),(9,.slice (ra (qs.getD (k+1+t) 0)) n (rc (qs.getD (k+1+t) 0))),(10,.pointer (some ⟨g488,0,none⟩)),(11,.int .i64 ((j:Nat):Int)),(13,.pointer (some ⟨g,0,none⟩)),(14,.pointer (some ⟨g,0,none⟩)),(15,.pointer (some ⟨g,5,none⟩)),(16,.int .i64 ((k:Nat):Int)),(17,.int .i64 ((k:Nat):Int)),(18,.int .i64 ((p:Nat):Int)),(19,.pointer (some ⟨g,0,none⟩)),(20,.pointer (some ⟨g,0,none⟩)),(21,.pointer (some ⟨g,0,none⟩)),(22,.slice RA n rcap),(23,.int .i64 ((n:Nat):Int)),(24,.bool true),(25,.bool true),(26,.pointer (some ⟨g,0,none⟩)),(27,.pointer (some ⟨g,0,none⟩)),(28,.pointer (some ⟨g,0,none⟩)),(29,.slice RA n rcap),(30,.int .i64 ((p:Nat):Int)),(31,.pointer (some pz6)),(32,.slice (ra (ps.getD p 0)) n (rc (ps.getD p 0))),(33,.int .i64 ((k:Nat):Int)),(34,.pointer (some pz7)),(35,.agg #[.bool sz7,.slice Bz7 nz7 cz7]),(36,.int .i64 (scmp (Z (ps.getD p 0) k) 0)),(37,.bool false),(38,.bool false),(41,.int .i64 ((p:Nat):Int)),(42,.pointer (some ⟨g,0,none⟩)),(43,.pointer (some ⟨g,0,none⟩)),(44,.pointer (some ⟨g,0,none⟩)),(45,.slice RA n rcap),(46,.int .i64 ((n:Nat):Int)),(47,.bool false),(48,.int .i64 ((p:Nat):Int)),(49,.int .i64 ((k:Nat):Int)),(50,.bool false),(111,.pointer (some ⟨g,0,none⟩)),(112,.pointer (some ⟨g,0,none⟩)),(113,.pointer (some ⟨g,0,none⟩)),(114,.slice RA n rcap),(115,.int .i64 ((k:Nat):Int)),(116,.pointer (some pz485)),(117,.slice (ra (qs.getD k 0)) n (rc (qs.getD k 0))),(118,.pointer (some ⟨g,0,none⟩)),(119,.pointer (some ⟨g,0,none⟩)),(120,.pointer (some ⟨g,0,none⟩)),(121,.slice RA n rcap),(122,.int .i64 ((k:Nat):Int)),(123,.int .i64 ((k+1:Nat):Int)),(124,.slice (if rcap=k+1 then RA else RA.map (·.add ((k+1)*1))) (n-(k+1)) (rcap-(k+1))),(125,.int .i64 ((n-(k+1):Nat):Int)),(126,.int .i64 ((t:Nat):Int)),(127,.bool true),(128,.pointer (some pz486)),(129,.slice (ra (qs.getD (k+1+t) 0)) n (rc (qs.getD (k+1+t) 0))),(130,.slice (ra (qs.getD (k+1+t) 0)) n (rc (qs.getD (k+1+t) 0))),(131,.int .i64 ((k:Nat):Int)),(132,.pointer (some pz487)),(133,.agg #[.bool sz487,.slice Bz487 nz487 cz487]),(134,.int .i64 ((k:Nat):Int)),(135,.int .i64 ((k+1:Nat):Int))]) (fun⟨wj,j,V⟩=>wj) (fun⟨wj,j,V⟩=>(Bl lb w wj)∧(j≤n)∧(Bk wj g 75 [.slice RA n rcap,.slice NA n ncap,.bool tu,.bool sl,.slice Al nl cl,.int .i64 ((k:Nat):Int)])∧(Zr wj 0 sl Al nl cl (z))∧(Bk wj g488 34 [.bool sz487,.slice Bz487 nz487 cz487])∧(Zr wj 0 sz487 Bz487 nz487 cz487 (Y (qs.getD (k+1+t) 0) k))∧(Own wj lb 22 1 RA n rcap (qs.map (rwv ra rc n)))∧(Own wj lb 3 1 NA n ncap (ns.map I64))∧(Rcs 17179869184 lb n n ra rc wj V)∧(k<j)∧(Mid n k (pr X qs) qs V (k+1+t) j)) (fun⟨wj,j,V⟩=>n-j)
      (⟨v497,(k+1),Y⟩:World×Nat×Mx) ⟨hw3,(by omega),((b_g.ext e490).updN u500 (by omega)),((z_g_1.ext e490).updT hb491 u500),hb499,((zz487.ext e490).updT hb491 u500),((o_RAwt.ext e490).upd u500 ne494),((o_NAwt.ext e490).upd u500 ne495),((rc_wt.ext e490).updT hb491 u500 nr496),(by omega),hM⟩ rfl ⟨rfl,rfl,rfl,rfl,rfl,rfl,rfl,rfl,rfl,rfl,rfl,rfl,rfl,rfl,rfl,rfl,rfl,rfl,rfl,rfl,rfl,rfl,rfl,rfl,rfl,rfl,rfl,rfl,rfl,rfl,rfl,rfl,rfl,rfl,rfl,rfl,rfl,rfl,rfl,rfl,rfl,rfl,rfl,rfl,rfl,rfl,rfl,rfl,rfl,rfl,rfl,rfl,rfl,rfl,rfl,rfl,rfl,rfl,rfl,rfl,rfl,rfl,rfl,rfl,rfl,rfl,rfl,rfl,rfl,rfl,trivial⟩ ?_
     rintro⟨wj,j,V⟩ ⟨hw1,hi_j,b_g,z_g_1,b_g488,z_g488,o_RAwj,o_NAwj,rc_wj,hj1,hMV⟩
     refine cw_re [(0,.pointer (some ⟨g,0,none⟩)),(1,.int .i64 ((k:Nat):Int)),(4,.bool false),(5,.int .i64 ((k:Nat):Int)),(6,.int .i64 ((p:Nat):Int)),(7,.slice (ra (qs.getD k 0)) n (rc (qs.getD k 0))),(9,.slice (ra (qs.getD (k+1+t) 0)) n (rc (qs.getD (k+1+t) 0))),(10,.pointer (some ⟨g488,0,none⟩)),(11,.int .i64 ((j:Nat):Int)),(13,.pointer (some ⟨g,0,none⟩)),(14,.pointer (some ⟨g,0,none⟩)),(15,.pointer (some ⟨g,5,none⟩)),(16,.int .i64 ((k:Nat):Int)),(17,.int .i64 ((k:Nat):Int)),(18,.int .i64 ((p:Nat):Int)),(19,.pointer (some ⟨g,0,none⟩)),(20,.pointer (some ⟨g,0,none⟩)),(21,.pointer (some ⟨g,0,none⟩)),(22,.slice RA n rcap),(23,.int .i64 ((n:Nat):Int)),(24,.bool true),(25,.bool true),(26,.pointer (some ⟨g,0,none⟩)),(27,.pointer (some ⟨g,0,none⟩)),(28,.pointer (some ⟨g,0,none⟩)),(29,.slice RA n rcap),(30,.int .i64 ((p:Nat):Int)),(31,.pointer (some pz6)),(32,.slice (ra (ps.getD p 0)) n (rc (ps.getD p 0))),(33,.int .i64 ((k:Nat):Int)),(34,.pointer (some pz7)),(35,.agg #[.bool sz7,.slice Bz7 nz7 cz7]),(36,.int .i64 (scmp (Z (ps.getD p 0) k) 0)),(37,.bool false),(38,.bool false),(41,.int .i64 ((p:Nat):Int)),(42,.pointer (some ⟨g,0,none⟩)),(43,.pointer (some ⟨g,0,none⟩)),(44,.pointer (some ⟨g,0,none⟩)),(45,.slice RA n rcap),(46,.int .i64 ((n:Nat):Int)),(47,.bool false),(48,.int .i64 ((p:Nat):Int)),(49,.int .i64 ((k:Nat):Int)),(50,.bool false),(111,.pointer (some ⟨g,0,none⟩)),(112,.pointer (some ⟨g,0,none⟩)),(113,.pointer (some ⟨g,0,none⟩)),(114,.slice RA n rcap),(115,.int .i64 ((k:Nat):Int)),(116,.pointer (some pz485)),(117,.slice (ra (qs.getD k 0)) n (rc (qs.getD k 0))),(118,.pointer (some ⟨g,0,none⟩)),(119,.pointer (some ⟨g,0,none⟩)),(120,.pointer (some ⟨g,0,none⟩)),(121,.slice RA n rcap),(122,.int .i64 ((k:Nat):Int)),(123,.int .i64 ((k+1:Nat):Int)),(124,.slice (if rcap=k+1 then RA else RA.map (·.add ((k+1)*1))) (n-(k+1)) (rcap-(k+1))),(125,.int .i64 ((n-(k+1):Nat):Int)),(126,.int .i64 ((t:Nat):Int)),(127,.bool true),(128,.pointer (some pz486)),(129,.slice (ra (qs.getD (k+1+t) 0)) n (rc (qs.getD (k+1+t) 0))),(130,.slice (ra (qs.getD (k+1+t) 0)) n (rc (qs.getD (k+1+t) 0))),(131,.int .i64 ((k:Nat):Int)),(132,.pointer (some pz487)),(133,.agg #[.bool sz487,.slice Bz487 nz487 cz487]),(134,.int .i64 ((k:Nat):Int)),(135,.int .i64 ((k+1:Nat):Int))] wj rfl ⟨rfl,rfl,rfl,rfl,rfl,rfl,rfl,rfl,rfl,rfl,rfl,rfl,rfl,rfl,rfl,rfl,rfl,rfl,rfl,rfl,rfl,rfl,rfl,rfl,rfl,rfl,rfl,rfl,rfl,rfl,rfl,rfl,rfl,rfl,rfl,rfl,rfl,rfl,rfl,rfl,rfl,rfl,rfl,rfl,rfl,rfl,rfl,rfl,rfl,rfl,rfl,rfl,rfl,rfl,rfl,rfl,rfl,rfl,rfl,rfl,rfl,rfl,rfl,rfl,rfl,rfl,rfl,rfl,rfl,rfl,trivial⟩ (cw_seq (cw_seq ?_))
     by_cases hjn:j<n
     · 
      refine cw_region (mv 2 rfl (pu (v:= .int .i64 ((n:Nat):Int)) rfl (by kernel_rfl) (wl_cmp rfl rfl rfl true (cb_lt_t (a:=j) (b:=n) rfl rfl (by omega)) (by decide) (ne_ (cw_true rfl (cw_skip (eo_then (cw_seq (cw_block (cw_seq ?_))))))))))
      obtain⟨pz502,sz502,Bz502,nz502,cz502,hpz502,ldz502,hKz502,zz502⟩:=(rc_wj).at (hI.per.lt k (by omega)) (show k<n by omega)
      obtain⟨pz503,sz503,Bz503,nz503,cz503,hpz503,ldz503,hKz503,zz503⟩:=(rc_wj).at (hI.per.lt (k+1+t) (by omega)) (show j<n by omega)
      have L504:ln ((V (qs.getD k 0) k)*(V (qs.getD (k+1+t) 0) j))≤34359738368:=Nat.le_trans (ln_mul (zz502.ln_le hKz502) (zz503.ln_le hKz503)) (by decide)
      obtain⟨pz506,sz506,Bz506,nz506,cz506,hpz506,ldz506,hKz506,zz506⟩:=(rc_wj).at (hI.per.lt k (by omega)) (show j<n by omega)
      have L507:ln ((Y (qs.getD (k+1+t) 0) k)*(V (qs.getD k 0) j))≤34359738368:=Nat.le_trans (ln_mul (zz487.ln_le hKz487) (zz506.ln_le hKz506)) (by decide)
      have L509:ln (((V (qs.getD k 0) k)*(V (qs.getD (k+1+t) 0) j))-((Y (qs.getD (k+1+t) 0) k)*(V (qs.getD k 0) j)))≤34359738369:=Nat.le_trans (ln_sub L504 L507) (by decide)
      refine cw_draw mix 17 [] [Is (.slice (ra (qs.getD k 0)) n (rc (qs.getD k 0))),Is (.int .i64 ((k:Nat):Int)),Is (.pointer (some pz502)),Is (.agg #[.bool sz502,.slice Bz502 nz502 cz502]),Is (.slice (ra (qs.getD (k+1+t) 0)) n (rc (qs.getD (k+1+t) 0))),Is (.int .i64 ((j:Nat):Int)),Is (.pointer (some pz503)),Is (.agg #[.bool sz503,.slice Bz503 nz503 cz503]),ZR w.heap.size ((V (qs.getD k 0) k)*(V (qs.getD (k+1+t) 0) j)),Is (.agg #[.bool sz487,.slice Bz487 nz487 cz487]),Is (.slice (ra (qs.getD k 0)) n (rc (qs.getD k 0))),Is (.int .i64 ((j:Nat):Int)),Is (.pointer (some pz506)),Is (.agg #[.bool sz506,.slice Bz506 nz506 cz506]),ZR w.heap.size ((Y (qs.getD (k+1+t) 0) k)*(V (qs.getD k 0) j)),ZR w.heap.size (((V (qs.getD k 0) k)*(V (qs.getD (k+1+t) 0) j))-((Y (qs.getD (k+1+t) 0) k)*(V (qs.getD k 0) j))),PR wj.heap.size 34 [F0,S0]] [[],[],[0,1],[2],[],[],[4,5],[6],[3,7],[],[],[],[10,11],[12],[9,13],[8,14],[]] [[],[],[0,1],[0,1,2],[],[],[4,5],[4,5,6],[0,1,2,3,4,5,6,7],[],[],[],[10,11],[10,11,12],[0,1,2,3,4,5,6,7,8,9,10,11,12,13],[0,1,2,3,4,5,6,7,8,9,10,11,12,13,14],[],[0,1,2,3,4,5,6,7,8,9,10,11,12,13,14,15,16]] rfl
       (obs_cons rfl rfl (hob rfl rfl ?_) (obs_cons rfl rfl (hob rfl rfl ?_) (obs_cons rfl rfl (hob rfl rfl ?_) (obs_cons rfl rfl (hob rfl rfl ?_) (obs_cons rfl rfl (hob rfl rfl ?_) (obs_cons rfl rfl (hob rfl rfl ?_) (obs_cons rfl rfl (hob rfl rfl ?_) (obs_cons rfl rfl (hob rfl rfl ?_) (obs_cons rfl rfl (hob rfl rfl ?_) (obs_cons rfl rfl (hob rfl rfl ?_) (obs_cons rfl rfl (hob rfl rfl ?_) (obs_cons rfl rfl (hob rfl rfl ?_) (obs_cons rfl rfl (hob rfl rfl ?_) (obs_cons rfl rfl (hob rfl rfl ?_) (obs_cons rfl rfl (hob rfl rfl ?_) (obs_cons rfl rfl (hob rfl rfl ?_) (obs_cons rfl rfl (hob rfl rfl ?_) obs_nil))))))))))))))))) ?_
      · 
       intro v511 e512
       have hw2:Bl lb w v511:=hw1.ext e512
       refine deps_nil (mv 1 rfl ?_)
       exact pi_done rfl (Ext.refl _) rfl
      · 
       intro v513 e514
       have hw2:Bl lb w v513:=hw1.ext e514
       refine deps_nil (mv 1 rfl ?_)
       exact pi_done rfl (Ext.refl _) rfl
      · 
       intro v515 e516
       have hw2:Bl lb w v515:=hw1.ext e516
       refine dk rfl rfl (dk rfl rfl (deps_nil (wl_idx rfl rfl rfl elemI aggInt.size k rfl (by omega) pz502 hpz502 (by decide) ?_)))
       exact pi_done rfl (Ext.refl _) rfl
      · 
       intro v527 e528
       have hw2:Bl lb w v527:=hw1.ext e528
       refine dk rfl rfl (deps_nil (wl_load rfl rfl (ldz502 _ e528 _ _ aggInt) (by decide) ?_))
       exact pi_done rfl (Ext.refl _) rfl
      · 
       intro v534 e535
       have hw2:Bl lb w v534:=hw1.ext e535
       refine deps_nil (mv 1 rfl ?_)
       exact pi_done rfl (Ext.refl _) rfl
      · 
       intro v536 e537
       have hw2:Bl lb w v536:=hw1.ext e537
       refine deps_nil (mv 1 rfl ?_)
       exact pi_done rfl (Ext.refl _) rfl
      · 
       intro v538 e539
       have hw2:Bl lb w v538:=hw1.ext e539
       refine dk rfl rfl (dk rfl rfl (deps_nil (wl_idx rfl rfl rfl elemI aggInt.size j rfl (by omega) pz503 hpz503 (by decide) ?_)))
       exact pi_done rfl (Ext.refl _) rfl
      · 
       intro v550 e551
       have hw2:Bl lb w v550:=hw1.ext e551
       refine dk rfl rfl (deps_nil (wl_load rfl rfl (ldz503 _ e551 _ _ aggInt) (by decide) ?_))
       exact pi_done rfl (Ext.refl _) rfl
      · 
       intro v557 e558
       have hw2:Bl lb w v557:=hw1.ext e558
       refine dk rfl rfl (dk rfl rfl (deps_nil ?_))
       have L569:ln ((V (qs.getD k 0) k)*(V (qs.getD (k+1+t) 0) j))≤34359738368:=Nat.le_trans (ln_mul (zz502.ln_le hKz502) (zz503.ln_le hKz503)) (by decide)
       refine wl_call rfl rfl (vs:= [.agg #[.bool sz502,.slice Bz502 nz502 cz502],.agg #[.bool sz503,.slice Bz503 nz503 cz503]]) (by kernel_rfl) (by decide) (g_zint_Mul hw2.size (zz502.ext e558).zi (zz502.le (Nat.le_trans (zz502.ln_le hKz502) (by decide))) (zz503.ext e558).zi (zz503.le (Nat.le_trans (zz503.ln_le hKz503) (by decide)))) ?_
       rintro _ v570 ⟨xr572,rfl,r572,e571⟩
       refine ret_intro ?_
       have hw3:Bl lb w v570:=hw2.ext e571
       obtain⟨s573,A573,n573,c573,rfl,z573⟩:=r572
       exact pi_done rfl e571 ⟨_,_,_,_,rfl,z573⟩
      · 
       intro v574 e575
       have hw2:Bl lb w v574:=hw1.ext e575
       refine deps_nil (lo aggInt (b_g488.ext e575) [.bool sz487,.slice Bz487 nz487 cz487] rfl rfl rfl ?_)
       exact pi_done rfl (Ext.refl _) rfl
      · 
       intro v576 e577
       have hw2:Bl lb w v576:=hw1.ext e577
       refine deps_nil (mv 1 rfl ?_)
       exact pi_done rfl (Ext.refl _) rfl
      · 
       intro v578 e579
       have hw2:Bl lb w v578:=hw1.ext e579
       refine deps_nil (mv 1 rfl ?_)
       exact pi_done rfl (Ext.refl _) rfl
      · 
       intro v580 e581
       have hw2:Bl lb w v580:=hw1.ext e581
       refine dk rfl rfl (dk rfl rfl (deps_nil (wl_idx rfl rfl rfl elemI aggInt.size j rfl (by omega) pz506 hpz506 (by decide) ?_)))
       exact pi_done rfl (Ext.refl _) rfl
      · 
       intro v592 e593
       have hw2:Bl lb w v592:=hw1.ext e593
       refine dk rfl rfl (deps_nil (wl_load rfl rfl (ldz506 _ e593 _ _ aggInt) (by decide) ?_))
       exact pi_done rfl (Ext.refl _) rfl
      · 
       intro v599 e600
       have hw2:Bl lb w v599:=hw1.ext e600
       refine dk rfl rfl (dk rfl rfl (deps_nil ?_))
       have L611:ln ((Y (qs.getD (k+1+t) 0) k)*(V (qs.getD k 0) j))≤34359738368:=Nat.le_trans (ln_mul (zz487.ln_le hKz487) (zz506.ln_le hKz506)) (by decide)
       refine wl_call rfl rfl (vs:= [.agg #[.bool sz487,.slice Bz487 nz487 cz487],.agg #[.bool sz506,.slice Bz506 nz506 cz506]]) (by kernel_rfl) (by decide) (g_zint_Mul hw2.size (z_g488.ext e600).zi (z_g488.le (Nat.le_trans (zz487.ln_le hKz487) (by decide))) (zz506.ext e600).zi (zz506.le (Nat.le_trans (zz506.ln_le hKz506) (by decide)))) ?_
       rintro _ v612 ⟨xr614,rfl,r614,e613⟩
       refine ret_intro ?_
       have hw3:Bl lb w v612:=hw2.ext e613
       obtain⟨s615,A615,n615,c615,rfl,z615⟩:=r614
       exact pi_done rfl e613 ⟨_,_,_,_,rfl,z615⟩
      · 
       intro v616 e617
       have hw2:Bl lb w v616:=hw1.ext e617
       refine deps_cons rfl rfl fun x618 y619 h620 e621 f622=>?_
       obtain⟨s623,A623,n623,c623,rfl,z623⟩:=h620
       have z623:=z623.ext f622
       refine deps_cons rfl rfl fun x624 y625 h626 e627 f628=>?_
       obtain⟨s629,A629,n629,c629,rfl,z629⟩:=h626
       have z629:=z629.ext f628
       refine deps_nil ?_
       have L630:ln (((V (qs.getD k 0) k)*(V (qs.getD (k+1+t) 0) j))-((Y (qs.getD (k+1+t) 0) k)*(V (qs.getD k 0) j)))≤34359738369:=Nat.le_trans (ln_sub L504 L507) (by decide)
       refine wl_call rfl rfl (vs:= [.agg #[.bool s623,.slice A623 n623 c623],.agg #[.bool s629,.slice A629 n629 c629]]) (by kernel_rfl) (by decide) (g_zint_Sub hw2.size z623.zi (z623.le (lx_ L504 rfl)) z629.zi (z629.le (lx_ L507 rfl))) ?_
       rintro _ v631 ⟨xr633,rfl,r633,e632⟩
       refine ret_intro ?_
       have hw3:Bl lb w v631:=hw2.ext e632
       obtain⟨s634,A634,n634,c634,rfl,z634⟩:=r633
       exact pi_done rfl e632 ⟨_,_,_,_,rfl,z634⟩
      · 
       intro v635 e636
       have hw2:Bl lb w v635:=hw1.ext e636
       refine deps_nil (wl_alloc rfl (z:= .agg #[F0,S0]) (vs:= [F0,S0]) (fun _=>by kernel_rfl) rfl (by decide) fun g637 v638 nb=>?_)
       exact pi_done rfl nb.ext ⟨_,rfl,by rw [←nb.at_];exact e636.size,nb.bk⟩
      · 
       intro v639 e640
       have hw2:Bl lb w v639:=hw1.ext e640
       refine dk rfl rfl (dk rfl rfl (dk rfl rfl (dk rfl rfl (dk rfl rfl (dk rfl rfl (dk rfl rfl (dk rfl rfl (deps_cons rfl rfl fun x681 y682 h683 e684 f685=>?_))))))))
       obtain⟨s686,A686,n686,c686,rfl,z686⟩:=h683
       have z686:=z686.ext f685
       refine dk rfl rfl (dk rfl rfl (dk rfl rfl (dk rfl rfl (dk rfl rfl (deps_cons rfl rfl fun x712 y713 h714 e715 f716=>?_)))))
       obtain⟨s717,A717,n717,c717,rfl,z717⟩:=h714
       have z717:=z717.ext f716
       refine deps_cons rfl rfl fun x718 y719 h720 e721 f722=>?_
       obtain⟨s723,A723,n723,c723,rfl,z723⟩:=h720
       have z723:=z723.ext f722
       refine deps_cons rfl rfl fun x724 y725 h726 e727 f728=>?_
       obtain⟨g729,rfl,ge731,hb730⟩:=h726
       have hb730:=hb730.ext f728
       have q732:g488<g729:=Nat.lt_of_lt_of_le b_g488.lt ge731
       have ne733:∀p:Addr,RA=some p→p.block≠g729:=fun p hp=>by have:=((o_RAwj).block p hp).2;have:=ge731;omega
       have ne734:∀p:Addr,NA=some p→p.block≠g729:=fun p hp=>by have:=((o_NAwj).block p hp).2;have:=ge731;omega
       have nr735:∀r,r<n→∀p:Addr,ra r=some p→p.block≠g729:=fun r hr p hp=>by have:=((rc_wj).lt r hr p hp).2;have:=ge731;omega
       have ge731:w.heap.size≤g729:=Nat.le_trans hw1.size ge731
       refine deps_nil (wl_stored rfl rfl rfl aggInt rfl hb730 (bq rfl) rfl [.bool s723,.slice A723 n723 c723] rfl fun v736 hb738 u739 hs740=>?_)
       have hw3:Bl lb w v736:=hw2.upd u739 (Nat.le_trans hlb ge731)
       refine wl_nil (eo_np (eo_then ?_))
       have hq:=hMV.quot hI.last hI.ne (by rw [hMV.old (Nat.le_refl _) (by omega) (Nat.le_refl _) (by omega) (Or.inl rfl)];exact hDb) (by omega) (by omega) hj1 hjn (hM.old (a:=k+1+t) (b:=k) (by omega) (by omega) (Nat.le_refl _) (by omega) (Or.inr (Or.inr ⟨rfl,Or.inl rfl⟩)))
       have hLq:ln (bm (pr X qs) (k+1) (k+1+t) j)≤17179869184:=Nat.le_trans (ln_bm hn (pr_ln hI.per hX) (by omega) (by omega) hjn) (by decide)
       obtain⟨pz746,sz746,Bz746,nz746,cz746,hpz746,ldz746,hKz746,zz746⟩:=(((rc_wj.ext e640).updT hb730 u739 nr735)).at (hI.per.lt (k+1+t) (by omega)) (show j<n by omega)
       refine cw_draw mix 12 [9,10] [Is (.slice (ra (qs.getD (k+1+t) 0)) n (rc (qs.getD (k+1+t) 0))),Is (.int .i64 ((j:Nat):Int)),Is (.agg #[.bool s723,.slice A723 n723 c723]),Is (.pointer (some ⟨g,0,none⟩)),Is (.pointer (some ⟨g,0,none⟩)),Is (.pointer (some ⟨g,3,none⟩)),Is (.agg #[.bool sl,.slice Al nl cl]),T2 (ZR w.heap.size (bm (pr X qs) (k+1) (k+1+t) j)) (Is (.int .i64 0)),T2 (ZR w.heap.size (bm (pr X qs) (k+1) (k+1+t) j)) (Is (.int .i64 0)),ZR w.heap.size (bm (pr X qs) (k+1) (k+1+t) j),Is (.int .i64 0),Is (.pointer (some pz746))] [[],[],[],[],[3],[4],[5],[2,6],[7],[8],[8],[0,1]] [[],[],[],[],[3],[3,4],[3,4,5],[2,3,4,5,6],[2,3,4,5,6,7],[2,3,4,5,6,7,8],[2,3,4,5,6,7,8],[0,1,2,3,4,5,6,7,8,9],[0,1,2,3,4,5,6,7,8,9,11]] rfl
        (obs_cons rfl rfl (hob rfl rfl ?_) (obs_cons rfl rfl (hob rfl rfl ?_) (obs_cons rfl rfl (hob rfl rfl ?_) (obs_cons rfl rfl (hob rfl rfl ?_) (obs_cons rfl rfl (hob rfl rfl ?_) (obs_cons rfl rfl (hob rfl rfl ?_) (obs_cons rfl rfl (hob rfl rfl ?_) (obs_cons rfl rfl (hob rfl rfl ?_) (obs_cons rfl rfl (hob rfl rfl ?_) (obs_float rfl rfl (fob rfl ?_) (obs_float rfl rfl (fob rfl ?_) (obs_cons rfl rfl (hob rfl rfl ?_) obs_nil)))))))))))) ?_
       · 
        intro v747 e748
        have hw4:Bl lb w v747:=hw3.ext e748
        refine deps_nil (mv 1 rfl ?_)
        exact pi_done rfl (Ext.refl _) rfl
       · 
        intro v749 e750
        have hw4:Bl lb w v749:=hw3.ext e750
        refine deps_nil (mv 1 rfl ?_)
        exact pi_done rfl (Ext.refl _) rfl
       · 
        intro v751 e752
        have hw4:Bl lb w v751:=hw3.ext e752
        refine deps_nil (lo aggInt (hb738.ext e752) [.bool s723,.slice A723 n723 c723] rfl rfl rfl ?_)
        exact pi_done rfl (Ext.refl _) rfl
       · 
        intro v753 e754
        have hw4:Bl lb w v753:=hw3.ext e754
        refine deps_nil (mv 1 rfl ?_)
        exact pi_done rfl (Ext.refl _) rfl
       · 
        intro v755 e756
        have hw4:Bl lb w v755:=hw3.ext e756
        refine dk rfl rfl (deps_nil (pf g 0 rfl (by kernel_rfl) ?_))
        exact pi_done rfl (Ext.refl _) rfl
       · 
        intro v762 e763
        have hw4:Bl lb w v762:=hw3.ext e763
        refine dk rfl rfl (deps_nil (pf g 3 rfl (by kernel_rfl) ?_))
        exact pi_done rfl (Ext.refl _) rfl
       · 
        intro v769 e770
        have hw4:Bl lb w v769:=hw3.ext e770
        refine dk rfl rfl (deps_nil (lo aggInt (((b_g.ext e640).updN u739 (by omega)).ext e770) [.bool sl,.slice Al nl cl] rfl rfl rfl ?_))
        exact pi_done rfl (Ext.refl _) rfl
       · 
        intro v776 e777
        have hw4:Bl lb w v776:=hw3.ext e777
        refine dk rfl rfl (dk rfl rfl (deps_nil (wl_call rfl rfl (vs:= [.agg #[.bool s723,.slice A723 n723 c723],.agg #[.bool sl,.slice Al nl cl]]) (by kernel_rfl) (by decide) ((g_zint_Exact hw4.size ((z723.updT hb730 u739).ext e777).zi (z723.le (lx_ L509 rfl)) (((z_g_1.ext e640).updT hb730 u739).ext e777).zi (z_g_1.le (lx_ hLz rfl)) hI.ne ⟨_,hq.1⟩).mono (Gv.imp (T2.imp (fun _ _ h=>ZR.cast h hq.2) Is.imp))) ?_)))
        rintro _ v788 ⟨xr790,rfl,r790,e789⟩
        refine ret_intro ?_
        have hw5:Bl lb w v788:=hw4.ext e789
        obtain⟨_,_,rfl,⟨s792,A792,n792,c792,rfl,z792⟩,rfl⟩:=r790
        exact pi_done rfl e789 ⟨_,_,rfl,⟨_,_,_,_,rfl,z792⟩,rfl⟩
       · 
        intro v793 e794
        have hw4:Bl lb w v793:=hw3.ext e794
        refine deps_cons rfl rfl fun x795 y796 h797 e798 f799=>?_
        obtain⟨_,_,rfl,⟨s801,A801,n801,c801,rfl,z801⟩,rfl⟩:=h797
        have z801:=z801.ext f799
        refine deps_nil (mv 1 rfl ?_)
        exact pi_done rfl (Ext.refl _) ⟨_,_,rfl,⟨_,_,_,_,rfl,z801⟩,rfl⟩
       · 
        intro v802 e803
        have hw4:Bl lb w v802:=hw3.ext e803
        refine deps_cons rfl rfl fun x804 y805 h806 e807 f808=>?_
        obtain⟨_,_,rfl,⟨s810,A810,n810,c810,rfl,z810⟩,rfl⟩:=h806
        have z810:=z810.ext f808
        refine deps_nil ?_
        exact⟨.agg #[.bool s810,.slice A810 n810 c810],rfl,rfl,fun _=>by kernel_rfl,⟨_,_,_,_,rfl,z810⟩⟩
       · 
        intro v811 e812
        have hw4:Bl lb w v811:=hw3.ext e812
        refine deps_cons rfl rfl fun x813 y814 h815 e816 f817=>?_
        obtain⟨_,_,rfl,⟨s819,A819,n819,c819,rfl,z819⟩,rfl⟩:=h815
        have z819:=z819.ext f817
        refine deps_nil ?_
        exact⟨.int .i64 0,rfl,rfl,fun _=>by kernel_rfl,rfl⟩
       · 
        intro v820 e821
        have hw4:Bl lb w v820:=hw3.ext e821
        refine dk rfl rfl (dk rfl rfl (deps_nil (wl_idx rfl rfl rfl elemI aggInt.size j rfl (by omega) pz746 hpz746 (by decide) ?_)))
        exact pi_done rfl (Ext.refl _) rfl
       · 
        intro v832 e833
        have hw4:Bl lb w v832:=hw3.ext e833
        refine dk rfl rfl (dk rfl rfl (dk rfl rfl (dk rfl rfl (dk rfl rfl (dk rfl rfl (dk rfl rfl (deps_cons rfl rfl fun x869 y870 h871 e872 f873=>?_)))))))
        obtain⟨_,_,rfl,⟨s875,A875,n875,c875,rfl,z875⟩,rfl⟩:=h871
        have z875:=z875.ext f873
        refine deps_cons rfl rfl fun x876 y877 h878 e879 f880=>?_
        obtain⟨_,_,rfl,⟨s882,A882,n882,c882,rfl,z882⟩,rfl⟩:=h878
        have z882:=z882.ext f880
        refine deps_cons rfl rfl fun x883 y884 h885 e886 f887=>?_
        obtain⟨s888,A888,n888,c888,rfl,z888⟩:=h885
        have z888:=z888.ext f887
        refine dk rfl rfl (dk rfl rfl (deps_nil ?_))
        have rt899:=(((rc_wj.ext e640).updT hb730 u739 nr735).ext e833)
        obtain⟨us901,own902⟩:=rt899.own (hI.per.lt (k+1+t) (by omega))
        refine wl_setR (e:=⟨s888,A888,n888,c888⟩) (z:=bm (pr X qs) (k+1) (k+1+t) j) rfl rfl rfl rt899 (hI.per.lt (k+1+t) (by omega)) (show j<n by omega) hpz746 (Zr.mono z888 (Nat.zero_le _)) (z888.le (lx_ hLq rfl)) fun v900 rc903 uo904=>?_
        have hw5:Bl lb w v900:=hw4.updO uo904 (fun p hp=>(own902.block p hp).1)
        refine wl_nil (eo_np (eo_block_normal (eo_then (cw_region (mv 1 rfl (wl_ar rfl rfl rfl ((j+1:Nat):Int) (ai_add (a:=j) (b:=1) rfl rfl (by omega)) (by decide) (mv 1 rfl (wl_nil (eo_round (⟨v900,j+1,ent V (qs.getD (k+1+t) 0) j (bm (pr X qs) (k+1) (k+1+t) j)⟩:World×Nat×Mx) ⟨hw5,(by omega),((((b_g.ext e640).updN u739 (by omega)).ext e833).updO uo904 (hA.rg (qs.getD (k+1+t) 0) (hI.per.lt (k+1+t) (by omega)))),((((z_g_1.ext e640).updT hb730 u739).ext e833).updOT own902 uo904),((((b_g488.ext e640).updN u739 (by omega)).ext e833).updO uo904 (nr496 (qs.getD (k+1+t) 0) (hI.per.lt (k+1+t) (by omega)))),((((z_g488.ext e640).updT hb730 u739).ext e833).updOT own902 uo904),((((o_RAwj.ext e640).upd u739 ne733).ext e833).updO uo904 (fun p q hp hq e=>hA.Rr (qs.getD (k+1+t) 0) (hI.per.lt (k+1+t) (by omega)) q p hq hp e.symm)),((((o_NAwj.ext e640).upd u739 ne734).ext e833).updO uo904 (fun p q hp hq e=>hA.Nr (qs.getD (k+1+t) 0) (hI.per.lt (k+1+t) (by omega)) q p hq hp e.symm)),rc903,(by omega),(hMV.next hI.per (by omega) (by omega) hj1 hjn rfl)⟩ (show n-(j+1)<n-j by omega) rfl ⟨rfl,rfl,rfl,rfl,rfl,rfl,rfl,rfl,rfl,rfl,rfl,rfl,rfl,rfl,rfl,rfl,rfl,rfl,rfl,rfl,rfl,rfl,rfl,rfl,rfl,rfl,rfl,rfl,rfl,rfl,rfl,rfl,rfl,rfl,rfl,rfl,rfl,rfl,rfl,rfl,rfl,rfl,rfl,rfl,rfl,rfl,rfl,rfl,rfl,rfl,rfl,rfl,rfl,rfl,rfl,rfl,rfl,rfl,rfl,rfl,rfl,rfl,rfl,rfl,rfl,rfl,rfl,rfl,rfl,rfl,trivial⟩)))))))))
     · 
      refine cw_region (mv 2 rfl (pu (v:= .int .i64 ((n:Nat):Int)) rfl (by kernel_rfl) (wl_cmp rfl rfl rfl false (cb_lt_f (a:=j) (b:=n) rfl rfl (by omega)) (by decide) (ne_ (cw_false rfl (cw_exit (eo_thenX (eo_loopX (eo_block_here (eo_then (cw_region (mv 2 rfl (pu (v:= .agg #[F0,S0]) rfl (by kernel_rfl) ?_)))))))))))))
      obtain⟨pz905,sz905,Bz905,nz905,cz905,hpz905,ldz905,hKz905,zz905⟩:=(rc_wj).at (hI.per.lt (k+1+t) (by omega)) (show k<n by omega)
      refine wl_idx rfl rfl rfl elemI aggInt.size k rfl (by omega) pz905 hpz905 (by decide) ?_
      have rt906:=rc_wj
      obtain⟨us908,own909⟩:=rt906.own (hI.per.lt (k+1+t) (by omega))
      refine wl_setR (e:=⟨false,none,0,0⟩) (z:=0) rfl rfl rfl rt906 (hI.per.lt (k+1+t) (by omega)) (show k<n by omega) hpz905 (Zr.mono (Zr.zero (w:=wj) (base:=w.heap.size)) (Nat.zero_le _)) (Nat.zero_le _) fun v907 rc910 uo911=>?_
      have hw2:Bl lb w v907:=hw1.updO uo911 (fun p hp=>(own909.block p hp).1)
      refine wl_nil (eo_block_normal (eo_then (cw_region (wl_ar rfl rfl rfl ((t+1:Nat):Int) (ai_add (a:=t) (b:=1) rfl rfl (by omega)) (by decide) (mv 1 rfl (wl_nil (eo_round (⟨v907,t+1,ent V (qs.getD (k+1+t) 0) k 0⟩:World×Nat×Mx) ⟨hw2,(by omega),(b_g.updO uo911 (hA.rg (qs.getD (k+1+t) 0) (hI.per.lt (k+1+t) (by omega)))),(z_g_1.updOT own909 uo911),(o_RAwj.updO uo911 (fun p q hp hq e=>hA.Rr (qs.getD (k+1+t) 0) (hI.per.lt (k+1+t) (by omega)) q p hq hp e.symm)),(o_NAwj.updO uo911 (fun p q hp hq e=>hA.Nr (qs.getD (k+1+t) 0) (hI.per.lt (k+1+t) (by omega)) q p hq hp e.symm)),rc910,(by have h9:Mid n k (pr X qs) qs V (k+1+t) n:=(show j=n by omega)▸hMV;exact h9.row hI.per (by omega) (by omega) 0)⟩ (show (n-(k+1))-(t+1)<(n-(k+1))-t by omega) rfl ⟨rfl,rfl,rfl,rfl,rfl,rfl,rfl,rfl,rfl,rfl,rfl,rfl,rfl,rfl,rfl,rfl,rfl,rfl,rfl,rfl,rfl,rfl,rfl,rfl,rfl,rfl,rfl,rfl,rfl,rfl,rfl,rfl,rfl,rfl,rfl,rfl,rfl,rfl,rfl,rfl,rfl,rfl,rfl,rfl,rfl,rfl,rfl,rfl,rfl,rfl,rfl,rfl,rfl,rfl,rfl,rfl,rfl,rfl,trivial⟩)))))))
    · 
     refine cw_region (wl_cmp rfl rfl rfl false (cb_lt_f (a:=t) (b:=n-(k+1)) rfl rfl (by omega)) (by decide) (ne_ (cw_seq (cw_false rfl (cw_exit (eo_thenX (eo_loopX (eo_block_here (eo_then (sr (mv 3 rfl ?_)))))))))))
     obtain⟨pz912,sz912,Bz912,nz912,cz912,hpz912,ldz912,hKz912,zz912⟩:=(rc_wt).at (hI.per.lt k (by omega)) (show k<n by omega)
     refine wl_idx rfl rfl rfl elemI aggInt.size k rfl (by omega) pz912 hpz912 (by decide) (wl_load rfl rfl (ldz912 _ (Ext.refl _) _ _ aggInt) (by decide) (pf g 0 rfl (by kernel_rfl) (pf g 3 rfl (by kernel_rfl) ?_)))
     have hb914:=b_g
     refine wl_stored rfl rfl rfl aggInt rfl hb914 (bq rfl) rfl [.slice RA n rcap,.slice NA n ncap,.bool tu,.bool sz912,.slice Bz912 nz912 cz912,.int .i64 ((k:Nat):Int)] rfl fun v913 hb915 u916 hs917=>?_
     have hw2:Bl lb w v913:=hw1.upd u916 hA.lg
     refine ne_ (sr (mv 1 rfl (pf g 0 rfl (by kernel_rfl) (pf g 5 rfl (by kernel_rfl) (wl_load rfl rfl (load_cell cellInt hb915 rfl) (by decide) (wl_ar rfl rfl rfl ((k+1:Nat):Int) (ai_add (a:=k) (b:=1) rfl rfl (by omega)) (by decide) (pf g 0 rfl (by kernel_rfl) (pf g 5 rfl (by kernel_rfl) (wl_stored1 rfl rfl rfl szInt rfl hb915 (bq rfl) rfl [.slice RA n rcap,.slice NA n ncap,.bool tu,.bool sz912,.slice Bz912 nz912 cz912,.int .i64 ((k+1:Nat):Int)] rfl fun v918 hb920 u921 hs922=>?_)))))))))
     have hw3:Bl lb w v918:=hw2.upd u921 hA.lg
     refine ne_ (sr (mv 1 rfl (ne_ (cw_ret (eo_ret [.bool true] rfl ⟨rfl,trivial⟩ ?_)))))
     have hM9:Mid n k (pr X qs) qs Y n (k+1):=(show k+1+t=n by omega)▸hM
     exact⟨hw3,Or.inr ⟨qs,Y,tu,Y (qs.getD k 0) k,rfl,⟨_,_,_,_,_,hb920,((zz912.updT hb914 u916).updT hb915 u921),((o_RAwt.upd u916 hA.Rg).upd u921 hA.Rg),((o_NAwt.upd u916 hA.Ng).upd u921 hA.Ng),((rc_wt.updT hb914 u916 hA.rg).updT hb915 u921 hA.rg)⟩,hI.next (by omega) hM9 (by rw [hM9.old (Nat.le_refl _) (by omega) (Nat.le_refl _) (by omega) (Or.inl rfl)];exact hDb)⟩⟩
 · 
  refine cw_region (mv 2 rfl (pf g 0 rfl (by kernel_rfl) (pf g 0 rfl (by kernel_rfl) (wl_load rfl rfl (load_cell cellRows b_g rfl) (by decide) (pu (v:= .int .i64 ((n:Nat):Int)) rfl (by kernel_rfl) (wl_cmp rfl rfl rfl false (cb_lt_f (a:=p) (b:=n) rfl rfl (by omega)) (by decide) (mv 13 rfl (pu (v:= .bool false) rfl (by kernel_rfl) (ne_ (cw_false rfl (cw_exit (eo_thenX (eo_loopX ?_)))))))))))))
  refine eo_block_here (eo_then (cw_seq (sr (mv 2 rfl (pf g 0 rfl (by kernel_rfl) (pf g 0 rfl (by kernel_rfl) (wl_load rfl rfl (load_cell cellRows b_g rfl) (by decide) (pu (v:= .int .i64 ((n:Nat):Int)) rfl (by kernel_rfl) (wl_cmp rfl rfl rfl true (cb_eq_t (a:=p) (b:=n) rfl rfl (by omega)) (by decide) (ne_ (cw_true rfl (sr (mv 1 rfl ?_)))))))))))))
  refine ne_ (cw_ret (eo_thenR (eo_ret [F0] rfl ⟨rfl,trivial⟩ ?_)))
  exact⟨hw1,Or.inl ⟨rfl,fun i h1 h2=>hz0 i h1 (by omega)⟩⟩
section
variable {P:Program}{Q:Exit→Act→World→Prop}{n:Nat}{l:Fr}{w:World}{ops:Array Oper}{rest:List Oper}{d:Nat}{ty:TypeId}{pos:String}{af:Array Edge}{gd:Option (Nat×Bool)}
theorem exec_invoke {x:Operand}{nm:String}{xs:Array Operand}{ts:Array TypeId}{dst:Option Nat}{t:TypeId}{u:Value}{k:FuncId}(vs:List Value) (hx:evo l x=some (.iface t u))
  (hxs:xs.toList.map (evo l)=vs.map some) (he:∀w:World,(invoke (.fn (.method nm) #[]) (.iface t u::vs).toArray).run P w= .ok (.enter k (u::vs).toArray) w){a:Act}(ha:Rp n l a):
  (execOp a.eval ⟨dst,.call {callee:= .invoke x nm,args:=xs,argTypes:=ts},ty,pos,af,gd⟩).run P w= .ok (.enter k (u::vs).toArray) w:=by
 have e1:xs.map a.eval=vs.toArray:=by
  apply Array.ext'
  rw [Array.toList_map]
  exact map_evo ha _ _ hxs
 unfold execOp
 simp only [resolve,ha.ev hx,e1,Sem.run_bind,Sem.run_pure,Result.andThen_ok]
 rw [show (#[Value.iface t u]++vs.toArray:Array Value)=(.iface t u::vs).toArray by simp,he]
theorem wl_callI {x:Operand}{nm:String}{xs:Array Operand}{ts:Array TypeId}{t:TypeId}{u:Value}{k:FuncId}(vs:List Value){R:Ending→World→Prop}(hw:guardB ops l gd=some true) (hx:evo l x=some (.iface t u))
  (hxs:xs.toList.map (evo l)=vs.map some) (he:∀w:World,(invoke (.fn (.method nm) #[]) (.iface t u::vs).toArray).run P w= .ok (.enter k (u::vs).toArray) w) (hn:d<n) (hc:Calls P k (u::vs).toArray w R)
  (h:∀e w',R e w'→Ret (fun v=>wl P ops Q n rest ((d,v)::l) w') e):wl P ops Q n (⟨some d,.call {callee:= .invoke x nm,args:=xs,argTypes:=ts},ty,pos,af,gd⟩::rest) l w:=fun a ha=>by
 refine wl_plain hw ha fun K hK=>?_
 unfold Oper.wp
 rw [exec_invoke vs hx hxs he ha]
 refine hc.mono fun e w' hR=>?_
 have:=h e w' hR
 cases e with
 | returned v=>exact hK _ _ (this _ (ha.put hn v))
 | panicked c=>exact this.elim
 | outgrown=>exact this.elim
end
theorem Lz.updY {m:Option World}{K b lb:Nat}{w w':World}{A:Option Addr}{n cap:Nat}{zs:List Int}{g:Nat}{T:TypeId}{us:List Value}(h:Lz m K b w lb A n cap zs) (hb:Bk w g T us) (x:Upd g w w') (hI:34≠T:=by decide) (hT:57≠T:=by decide):Lz m K b w' lb A n cap zs:=by
 obtain⟨es,h1,h2,h3,h4⟩:=h
 exact⟨es,h1.updT hb hI x,h2,h3,fun i hi=>⟨(h4 i hi).1,(h4 i hi).2.updT hb x hT⟩⟩
theorem aggStep:AggT Try.prog 79 5:=⟨fun _=>by kernel_rfl,fun _=>by kernel_rfl⟩
structure Sl (w:World) (A:Option Addr) (n:Nat) (ss:List Stp) (ms:List Nat):Prop where
 len:ss.length=n
 mlen:ms.length=n
 get:∀i,i<n→∃p s B c,A.map (·.add (i*5))=some p∧(∀j,j<5→w.cell? (p.add j)=some ([.int .i64 (ss.getD i Stp.z).k,.int .i64 (ss.getD i Stp.z).i,.int .i64 (ss.getD i Stp.z).j,.bool s,.slice B (ms.getD i 0) c].getD j undef))∧Zi w s B (ms.getD i 0) c (ss.getD i Stp.z).f
theorem Sl.ext {w w':World}{A:Option Addr}{n:Nat}{ss:List Stp}{ms:List Nat}(h:Sl w A n ss ms) (e:Ext w w'):Sl w' A n ss ms:=⟨h.len,h.mlen,fun i hi=>by
 obtain⟨p,s,B,c,h1,h2,h3⟩:=h.get i hi
 exact⟨p,s,B,c,h1,fun j hj=>e.cell (h2 j hj),h3.ext e⟩⟩
theorem Sl.at {w:World}{A:Option Addr}{n:Nat}{ss:List Stp}{ms:List Nat}(h:Sl w A n ss ms){i:Nat}(hi:i<n):
  ∃p s B c,A.map (·.add (i*5))=some p∧(∀w',Ext w w'→(loadVar 79 p).run Try.prog w'= .ok (.agg #[.int .i64 (ss.getD i Stp.z).k,.int .i64 (ss.getD i Stp.z).i,.int .i64 (ss.getD i Stp.z).j,.bool s,.slice B (ms.getD i 0) c]) w')∧Zi w s B (ms.getD i 0) c (ss.getD i Stp.z).f:=by
 obtain⟨p,s,B,c,h1,h2,h3⟩:=h.get i hi
 exact⟨p,s,B,c,h1,fun w' e=>load_at aggStep [.int .i64 (ss.getD i Stp.z).k,.int .i64 (ss.getD i Stp.z).i,.int .i64 (ss.getD i Stp.z).j,.bool s,.slice B (ms.getD i 0) c] rfl (fun j hj=>e.cell (h2 j hj)),h3⟩
def Mv (b:Nat) (s:Stp):Value→World→Prop:=fun v w=>
 (s.k=1∧v= .iface 105 (.agg #[.int .i64 s.i,.int .i64 s.j]))∨(s.k=2∧v= .iface 107 (.agg #[.int .i64 s.i]))∨
  (s.k=3∧∃t B m c,v= .iface 109 (.agg #[.int .i64 s.i,.int .i64 s.j,.bool t,.slice B m c])∧Zr w b t B m c s.f)∨(s.k≠1∧s.k≠2∧s.k≠3∧v= .iface 111 (.agg #[]))
def AddQ (b:Nat) (i j f:Int):Value→World→Prop:=fun v w=>∃t B m c,v= .agg #[.int .i64 i,.int .i64 j,.bool t,.slice B m c]∧Zr w b t B m c f
def AddI (b:Nat) (i j f:Int):Value→World→Prop:=fun v w=>∃t B m c,v= .iface 109 (.agg #[.int .i64 i,.int .i64 j,.bool t,.slice B m c])∧Zr w b t B m c f
end Go.Proofs.Ytgekkehpljbklaa

namespace Go.Proofs.Ytgekkehpljbklaa
open Go.ChangeShapes Go.WideShapes Go.ChangeAt Go.RowKit
theorem five_s {α:Type}{l:List α}(h:l.length=5):∃a b c d e,l= [a,b,c,d,e]:=by
 match l,h with
 | [a,b,c,d,e],_=>exact⟨a,b,c,d,e,rfl⟩
theorem four_s {α:Type}{l:List α}(h:l.length=4):∃a b c d,l= [a,b,c,d]:=by
 match l,h with
 | [a,b,c,d],_=>exact⟨a,b,c,d,rfl⟩
theorem fields_step:∃f0 f1 f2 f3:Field,Try.prog.underlying 79=some (.struct #[f0,f1,f2,f3])∧(f0.type=3∧f0.offset=0)∧(f1.type=3∧f1.offset=1)∧(f2.type=3∧f2.offset=2)∧(f3.type=34∧f3.offset=3):=
 ⟨_,_,_,_,Try.underlying79,⟨rfl,rfl⟩,⟨rfl,rfl⟩,⟨rfl,rfl⟩,⟨rfl,rfl⟩⟩
theorem cells_step:Try.prog.cellsOf 79=5:=by kernel_rfl
set_option maxRecDepth 20000 in
theorem open_stepc {H:Type}{enc:TypeId×Value→H}{W:World}{cs:List Value}{x:DataW H×List MemPlace}{fuel:Nat}
  (h:DataW.trod enc Try.prog W 0 (fun _=>true) true fuel 79 cs=some x):
  ∃(q:Stp×Bool×Option Addr×Nat×Nat),cs= [.int .i64 q.1.k,.int .i64 q.1.i,.int .i64 q.1.j,.bool q.2.1,.slice q.2.2.1 q.2.2.2.1 q.2.2.2.2]∧Zi W q.2.1 q.2.2.1 q.2.2.2.1 q.2.2.2.2 q.1.f∧q.2.2.2.1+1≤Rows.uptoBulk x.1:=by
 obtain⟨f0,f1,f2,f3,hu,⟨t0,o0⟩,⟨t1,o1⟩,⟨t2,o2⟩,t3,o3⟩:=fields_step
 obtain⟨ys,n,_,hx,hcl,hyl,hf⟩:=DataW.trod_struct hu h
 rw [cells_step] at hcl
 obtain⟨c0,c1,c2,c3,c4,rfl⟩:=five_s hcl
 obtain⟨y0,y1,y2,y3,rfl⟩:=four_s (show ys.length=4 from hyl)
 have g0:=hf 0 f0 rfl
 have g1:=hf 1 f1 rfl
 have g2:=hf 2 f2 rfl
 have g3:=hf 3 f3 rfl
 rw [t0,o0,cells_im] at g0
 rw [t1,o1,cells_im] at g1
 rw [t2,o2,cells_im] at g2
 rw [t3,o3,cells_int] at g3
 obtain⟨k,hk,_,_⟩:=DataW.trod_int Try.underlying3 (show DataW.trod enc Try.prog W 0 (fun _=>true) true n 3 [c0]=some y0 from g0)
 obtain⟨i,hi,_,_⟩:=DataW.trod_int Try.underlying3 (show DataW.trod enc Try.prog W 0 (fun _=>true) true n 3 [c1]=some y1 from g1)
 obtain⟨j,hj,_,_⟩:=DataW.trod_int Try.underlying3 (show DataW.trod enc Try.prog W 0 (fun _=>true) true n 3 [c2]=some y2 from g2)
 obtain⟨s,B,nb,c,z,rfl,rfl,hz,hb,_⟩:=open_zcells (show DataW.trod enc Try.prog W 0 (fun _=>true) true n 34 [c3,c4]=some y3 from g3)
 obtain rfl:=List.singleton_inj.1 hk
 obtain rfl:=List.singleton_inj.1 hi
 obtain rfl:=List.singleton_inj.1 hj
 subst hx
 refine⟨⟨⟨k,i,j,z⟩,s,B,nb,c⟩,rfl,hz,?_⟩
 simp only [Rows.uptoBulk,List.map_cons,Rows.uptoBulkAll]
 omega
set_option maxRecDepth 20000 in
theorem open_steps {H:Type}{enc:TypeId×Value→H}{W:World}{base:Nat}{v:Value}{d:DataW H}{p:List MemPlace}
  (hval:Value.okWide Try.prog W .any base 38 v) (h:DataW.Trod enc Try.prog W 0 (fun _=>true) true 38 v d p):
  ∃A n cap ss ms,v= .slice A n cap∧Sl W A n ss ms∧n+ms.sum≤Rows.uptoBulk d:=by
 obtain⟨A,n,cap,rfl⟩:=okWide_slice Try.underlying38 hval
 obtain⟨fuel,hf⟩:=h
 have hf':DataW.trod enc Try.prog W 0 (fun _=>true) true fuel 38 [.slice A n cap]=some (d,p):=hf
 rcases Go.Deep.open_slice Try.underlying38 hf' with⟨hcs,hx⟩ | ⟨a,n',cap',m,k,D,Pl,hcs,_,hl,hm,hmm,hx,hi⟩
 ·have h1:=List.singleton_inj.1 hcs
  injection h1 with e1 e2 e3
  subst e1;subst e2;subst e3
  exact⟨none,0,0,[],[],rfl,⟨rfl,rfl,fun i hi=>by omega⟩,by simp⟩
 ·have h1:=List.singleton_inj.1 hcs
  injection h1 with e1 e2 e3
  subst e1;subst e2;subst e3
  simp only [if_true] at hmm
  have hmm':=hmm.symm
  subst hmm'
  simp only [Prod.mk.injEq] at hx
  obtain⟨rfl,rfl⟩:=hx
  rw [cells_step] at hi
  have hel:∀i,i<cap→∃(q:Stp×Bool×Option Addr×Nat×Nat),(∀j,j<5→W.cell? ((a.add (i*5)).add j)=some ([.int .i64 q.1.k,.int .i64 q.1.i,.int .i64 q.1.j,.bool q.2.1,.slice q.2.2.1 q.2.2.2.1 q.2.2.2.2].getD j undef))∧Zi W q.2.1 q.2.2.1 q.2.2.2.1 q.2.2.2.2 q.1.f∧q.2.2.2.1+1≤Rows.uptoBulk (D i):=by
   intro i him
   obtain⟨cs',hc,ht'⟩:=hi i him
   obtain⟨_,hcl,hat⟩:=World.cells?_some hc
   obtain⟨q,rfl,hz,hb⟩:=open_stepc ht'
   refine⟨q,fun j hj=>?_,hz,hb⟩
   have:=hat j (by simpa using hj)
   rw [this,List.getD_eq_getElem?_getD,List.getElem?_eq_getElem (by simpa using hj)];rfl
  haveI:Inhabited (Stp×Bool×Option Addr×Nat×Nat):=⟨Stp.z,false,none,0,0⟩
  obtain⟨Q,hQ⟩:=Go.Deep.choose_lt hel
  refine⟨some a,n,cap,(List.range n).map (fun i=>(Q i).1),(List.range n).map (fun i=>(Q i).2.2.2.1),rfl,⟨by simp,by simp,fun i hin=>?_⟩,?_⟩
  ·obtain⟨h1,h2,_⟩:=hQ i (by omega)
   have e1:((List.range n).map (fun i=>(Q i).2.2.2.1)).getD i 0=(Q i).2.2.2.1:=by simp [List.getD_eq_getElem?_getD,hin]
   have e2:((List.range n).map (fun i=>(Q i).1)).getD i Stp.z=(Q i).1:=by simp [List.getD_eq_getElem?_getD,hin]
   rw [e1,e2]
   exact⟨_,_,_,_,rfl,h1,h2⟩
  ·have:=sum_map_le D (fun i=>(Q i).2.2.2.1) n (fun i hin=>(hQ i (by omega)).2.2)
   simp only [Rows.uptoBulk]
   omega
end Go.Proofs.Ytgekkehpljbklaa

namespace Go.Proofs.Ytgekkehpljbklaa
open Go.RowKit
structure Wd (F:Fence) (m:Nat) (P:Program):Prop where
 fn:∀f,F.fn f
 dep:F.depth=none
 call:∀f args w R,Calls P f args w R→CallsIn F (m-1) P f args w R
 row:∀s args w R,Rows P s args w R→RowsIn F (m-1) P s args w R
theorem Wd.wide (m:Nat) (P:Program):Wd Fence.wide m P:=⟨fun _=>trivial,rfl,fun _ _ _ _ h=>callsIn_wide.2 h,fun _ _ _ _ h c cs _=>by
 obtain⟨v,w',h1,h2⟩:=h c cs
 exact⟨v,w',h1,stepsIn_wide.2 h2⟩⟩
theorem Wd.round (l m:Nat) (P:Program):Wd (Fence.wide.inRound l) m P:=⟨fun _=>trivial,rfl,fun _ _ _ _ h=>CallsIn.inRound l (callsIn_wide.2 h),fun s args w R h=>(Wd.wide m P).row s args w R h⟩
def noDf (o:Oper):Bool:=match o.op with | .defer _=>false | _=>true
theorem noDf_ne {o:Oper}(h:noDf o=true):∀c,o.op≠ .defer c:=fun c e=>by unfold noDf at h;rw [e] at h;cases h
section
variable {F:Fence}{m:Nat}{P:Program}{ops:Array Oper}{Q Q':Exit→Act→World→Prop}
theorem oper_in (hW:Wd F m P){o:Oper}{a:Act}{w:World}{K K':Act→World→Prop}(hnd:noDf o=true) (hlo:¬LetsOut Q) (hp:∀c a w,Q (.panic c) a w→Q' (.panic c) a w) (hK:∀a w,K a w→K' a w) (h:o.wp P a w K Q∨(o.asks P a w∧LetsOut Q)):o.wpIn F m P a w K' Q':=by
 rcases h with h | h
 ·refine⟨fun _ _=>hW.fn _,?_⟩
  rw [Oper.semAt_eq _ _ _ (noDf_ne hnd)]
  unfold Oper.wp at h
  generalize (execOp a.eval o).run P w=r at h
  cases r with
  | ok x w'=>
   cases x with
   | value v=>exact hK _ _ h
   | skip=>exact hK _ _ h
   | defer d=>exact hK _ _ h
   | enter f args=>
    refine⟨fun hd=>(by rw [hW.dep] at hd;cases hd),(hW.call _ _ _ _ h).mono fun e w'' h2=>?_⟩
    cases e with
    | returned v=>exact hK _ _ h2
    | panicked c=>exact hp _ _ _ h2
    | outgrown=>exact absurd h2 hlo
   | row s args=>exact⟨fun hd=>(by rw [hW.dep] at hd;cases hd),(hW.row _ _ _ _ h).mono fun v w'' h2=>hK _ _ h2⟩
   | _=>exact h.elim
  | halt x w'=>
   cases x with
   | panic v=>exact hp _ _ _ h
   | _=>exact h.elim
 ·exact absurd h.2 hlo
theorem list_in (hW:Wd F m P) (hlo:¬LetsOut Q) (hp:∀c a w,Q (.panic c) a w→Q' (.panic c) a w) (rest:List Oper) (hq:∀a w,Q .normal a w→wpListIn F m P ops Q' rest a w):∀(pre:List Oper) (a:Act) (w:World),pre.all noDf=true→wpList P ops Q pre a w→wpListIn F m P ops Q' (pre++rest) a w
 | [],a,w,_,h=>hq a w h
 | o::pre,a,w,hn,h=>by
  simp only [List.all_cons,Bool.and_eq_true] at hn
  unfold wpList at h
  show wpListIn F m P ops Q' (o::(pre++rest)) a w
  unfold wpListIn
  split
  ·next hw=>
   rw [if_pos hw] at h
   exact oper_in hW hn.1 hlo hp (fun a w h=>list_in hW hlo hp rest hq pre a w hn.2 h) h
  ·next hw=>
   rw [if_neg hw] at h
   exact⟨fun _ _=>hW.fn _,list_in hW hlo hp rest hq pre _ w hn.2 h⟩
theorem any_in (hW:Wd F m P) (hlo:¬LetsOut Q){md:Region.Mode}(hnd:∀(i:Nat) (o:Oper),ops[i]?=some o→noDf o=true):∀(fuel:Nat) (listed:Array Bool) (a:Act) (w:World),wpAny P md ops Q fuel listed a w→wpAnyIn F m P md ops Q fuel listed a w
 | 0,_,_,_,h=>h
 | fuel+1,listed,a,w,h=>by
  refine⟨h.1,fun i hi=>?_⟩
  have h2:=h.2 i hi
  unfold wpOp at h2
  unfold wpOpIn
  cases ho:ops[i]? with
  | none=>simp only [ho] at h2⊢;exact any_in hW hlo hnd fuel _ _ _ h2
  | some o=>
   simp only [ho] at h2⊢
   split
   ·next hw=>
    rw [if_pos hw] at h2
    exact oper_in hW (hnd i o ho) hlo (fun _ _ _ h=>h) (fun a w h=>any_in hW hlo hnd fuel _ a w h) h2
   ·next hw=>
    rw [if_neg hw] at h2
    exact⟨fun _ _=>hW.fn _,any_in hW hlo hnd fuel _ _ w h2⟩
end
theorem np_lets {Q:Exit→Act→World→Prop}(h:¬LetsOut Q):¬LetsOut (NP Q):=fun⟨a,w,h2⟩=>h ⟨a,w,h2⟩
section
variable {F:Fence}{m:Nat}{P:Program}{Q:Exit→Act→World→Prop}{n:Nat}{l:Fr}{w:World}{ol:List Oper}
def ci (F:Fence) (m:Nat) (P:Program) (Q:Exit→Act→World→Prop) (n:Nat) (c:Code) (l:Fr) (w:World):Prop:=∀a,Rp n l a→c.wpIn F m P Q a w
theorem ci_seq {x y:Code}(h:ci F m P (Exit.then (fun a w=>y.wpIn F m P Q a w) Q) n x l w):ci F m P Q n (.seq x y) l w:=fun a ha=>wpIn_seq (h a ha)
theorem ci_block {i:Nat}{c:Code}(h:ci F m P (Exit.inBlock i Q) n c l w):ci F m P Q n (.block i c) l w:=fun a ha=>wpIn_block (h a ha)
theorem eo_thenI {y:Code}(h:ci F m P Q n y l w):eo (Exit.then (fun a w=>y.wpIn F m P Q a w) Q) .normal n l w:=h
theorem ci_region {id:Nat}(hW:Wd F m P) (hlo:¬LetsOut Q) (hnd:ol.all noDf=true) (h:wl P ol.toArray Q n ol l w):ci F m P Q n (.region id ol.toArray false) l w:=fun a ha=>
 wpIn_region_lit (by have:=list_in hW hlo (fun _ _ _ h=>h) [] (fun a w h=>h) ol a w hnd (h a ha);rwa [List.append_nil] at this)
theorem then_lets {K:Act→World→Prop}(h:¬LetsOut Q):¬LetsOut (Exit.then K Q):=fun⟨a,w,h2⟩=>h ⟨a,w,h2⟩
theorem block_lets {i:Nat}(h:¬LetsOut Q):¬LetsOut (Exit.inBlock i Q):=fun⟨a,w,h2⟩=>h ⟨a,w,h2⟩
def wlW (m:Nat) (P:Program) (ops:Array Oper) (Q:Exit→Act→World→Prop) (n:Nat) (rest:List Oper) (l:Fr) (w:World):Prop:=∀a,Rp n l a→wpListIn Fence.wide m P ops Q rest a w
theorem cw_regionW (m:Nat){id:Nat}(h:wlW m P ol.toArray Q n ol l w):cw P Q n (.region id ol.toArray false) l w:=fun a ha=>wpIn_wide.1 (wpIn_region_lit (h a ha))
theorem wlW_split {ops:Array Oper}(pre rest:List Oper) (hlo:¬LetsOut Q) (hnd:pre.all noDf=true) (h:wl P ops (Exit.then (fun a w=>wpListIn Fence.wide m P ops Q rest a w) Q) n pre l w):wlW m P ops Q n (pre++rest) l w:=fun a ha=>
 list_in (Q:=Exit.then (fun a w=>wpListIn Fence.wide m P ops Q rest a w) Q) (Q':=Q) (Wd.wide m P) (then_lets hlo) (fun _ _ _ h=>h) rest (fun _ _ h=>h) pre a w hnd (h a ha)
theorem eo_thenL {ops:Array Oper}{rest:List Oper}(h:wlW m P ops Q n rest l w):eo (Exit.then (fun a w=>wpListIn Fence.wide m P ops Q rest a w) Q) .normal n l w:=h
theorem wlW_wl {ops:Array Oper}{rest:List Oper}(hlo:¬LetsOut Q) (hnd:rest.all noDf=true) (h:wl P ops Q n rest l w):wlW m P ops Q n rest l w:=fun a ha=>by
 have:=list_in (Wd.wide m P) hlo (fun _ _ _ h=>h) [] (fun a w h=>h) rest a w hnd (h a ha)
 rwa [List.append_nil] at this
theorem wlW_yield {ops:Array Oper}{rest:List Oper}{d:Nat}{ty:TypeId}{pos:String}{af:Array Edge}{x:Operand}{xs:Array Operand}{ts:Array TypeId}{lp:Nat}(vs:List Value){R:Ending→World→Prop}(hx:evo l x=some (.func (.yield lp) #[] #[]))
  (hxs:xs.toList.map (evo l)=vs.map some) (hn:d<n) (hy:YieldAt Fence.wide (m-1) P lp vs.toArray w R) (h:∀e w',R e w'→Ret (fun v=>wlW m P ops Q n rest ((d,v)::l) w') e):
  wlW m P ops Q n (⟨some d,.call {callee:= .value x,args:=xs,argTypes:=ts},ty,pos,af,none⟩::rest) l w:=fun a ha=>by
 obtain⟨fn,tmps,assign,body,hr,hR⟩:=hy
 unfold wpListIn
 rw [if_pos (wanted_of (l:=l) (ops:=ops) rfl ha)]
 refine⟨fun _ _=>trivial,?_⟩
 have e1:xs.map a.eval=vs.toArray:=by
  apply Array.ext'
  rw [Array.toList_map]
  exact map_evo ha _ _ hxs
 have e2:(Oper.semAt Fence.wide.round a.eval ⟨some d,.call {callee:= .value x,args:=xs,argTypes:=ts},ty,pos,af,none⟩).run P w= .ok (.round lp fn tmps assign body) w:=by
  rw [Oper.semAt_eq _ _ _ (fun c e=>by cases e)]
  unfold execOp
  simp only [resolve,ha.ev hx,e1,Deferred.ofValue,Sem.run_bind,Sem.run_pure,Result.andThen_ok,invoke]
  simpa using hr
 rw [e2]
 refine⟨fun hd=>(by cases hd),hR.mono fun e w' h2=>?_⟩
 have h3:=h e w' h2
 cases e with
 | returned v=>exact h3 _ (ha.put hn v)
 | panicked c=>exact h3.elim
 | outgrown=>exact h3.elim
end
structure Nc (X Y:World):Prop where
 ex:∃row:Option Nat,X.grownBy Y row∧∀q,row=some q→∃o,X.heap[q]?=some o∧o.isCells=false
section
variable {X Y:World}
theorem Nc.heap (h:Nc X Y){g:Nat}{cs:Array Value}{t:TypeId}{z:Nat×Nat}(hb:X.heap[g]?=some (.cells cs t z)):Y.heap[g]?=some (.cells cs t z):=by
 obtain⟨row,h1,h2⟩:=h.ex
 refine (h1.block g (Array.getElem?_eq_some_iff.1 hb).1 (fun e=>?_)).trans hb
 obtain⟨o,ho,hc⟩:=h2 g e.symm
 rw [hb] at ho;cases ho;cases hc
theorem Bk.nc {g:Nat}{t:TypeId}{vs:List Value}(h:Bk X g t vs) (n:Nc X Y):Bk Y g t vs:=n.heap h
theorem Own.nc {b:Nat}{t:TypeId}{s:Nat}{A:Option Addr}{n cap:Nat}{vs:List Value}(h:Own X b t s A n cap vs) (c:Nc X Y):Own Y b t s A n cap vs:=by
 rcases h with h | ⟨g,cs,ha,hb,hk,r⟩
 ·exact Or.inl h
 ·exact Or.inr ⟨g,cs,ha,hb,hk.nc c,r⟩
theorem Zr.nc {b:Nat}{s:Bool}{A:Option Addr}{n cap:Nat}{z:Int}(h:Zr X b s A n cap z) (c:Nc X Y):Zr Y b s A n cap z:=⟨h.sgn,h.len,h.own.nc c⟩
theorem Lz.nc {K b lb:Nat}{A:Option Addr}{n cap:Nat}{zs:List Int}(h:Lz none K b X lb A n cap zs) (c:Nc X Y):Lz none K b Y lb A n cap zs:=by
 obtain⟨es,h1,h2,h3,h4⟩:=h
 exact⟨es,h1.nc c,h2,h3,fun i hi=>⟨(h4 i hi).1,Or.inl ((h4 i hi).2.zr.nc c)⟩⟩
theorem Rcs.nc {K lb n m:Nat}{ra:Nat→Option Addr}{rc:Nat→Nat}{Z:Mx}(h:Rcs K lb n m ra rc X Z) (c:Nc X Y):Rcs K lb n m ra rc Y Z:=⟨fun r hr=>by obtain⟨zs,h1,h2⟩:=h.row r hr;exact⟨zs,h1.nc c,h2⟩,h.dis⟩
theorem Nc.size (h:Nc X Y):X.heap.size≤Y.heap.size:=by obtain⟨row,h1,_⟩:=h.ex;exact h1.size
theorem Nc.put {l:Nat}{o:Obj}(o':Obj) (hl:X.heap[l]?=some o) (ho:o.isCells=false):Nc X (X.putObj l o'):=⟨some l,grownBy_putObj' X l o',fun q e=>by cases e;exact⟨o,hl,ho⟩⟩
end
theorem Zl.cut {w:World}{A:Option Addr}{n cap:Nat}{zs:List Int}{ms:List Nat}(h:Zl w A n cap zs ms){lo hi:Nat}(h1:lo≤hi) (h2:hi≤n):
  Zl w (if cap=lo then A else A.map (·.add (lo*2))) (hi-lo) (cap-lo) ((zs.take hi).drop lo) ((ms.take hi).drop lo):=by
 have hle:=h.le
 refine⟨by rw [List.length_drop,List.length_take,h.len];omega,by rw [List.length_drop,List.length_take,h.mlen];omega,by omega,Nat.le_trans (Nat.sub_le _ _) h.max,fun i hi'=>?_⟩
 obtain⟨a,s,B,c,ha,h3,h4,h5⟩:=h.get (lo+i) (by omega)
 have e1:∀{α:Type}(l:List α) (d:α),((l.take hi).drop lo).getD i d=l.getD (lo+i) d:=fun l d=>by
  simp only [List.getD_eq_getElem?_getD,List.getElem?_drop]
  rw [List.getElem?_take,if_pos (by omega)]
 rw [e1,e1,if_neg (by omega),ha]
 refine⟨a.add (lo*2),s,B,c,rfl,?_,?_,h5⟩
 ·rw [add_of_add,←Nat.add_mul];exact h3
 ·rw [add_of_add,←Nat.add_assoc,←Nat.add_mul];exact h4
theorem ZF.cut {w:World}{A:Option Addr}{n cap K:Nat}{zs:List Int}(h:ZF w A n cap K zs){lo hi:Nat}(h1:lo≤hi) (h2:hi≤n):ZF w (if cap=lo then A else A.map (·.add (lo*2))) (hi-lo) (cap-lo) K ((zs.take hi).drop lo):=by
 obtain⟨ms,h3,h4⟩:=h
 refine⟨_,h3.cut h1 h2,fun i=>?_⟩
 by_cases hi':i<hi-lo
 ·have e1:((ms.take hi).drop lo).getD i 0=ms.getD (lo+i) 0:=by
   simp only [List.getD_eq_getElem?_getD,List.getElem?_drop]
   rw [List.getElem?_take,if_pos (by omega)]
  rw [e1];exact h4 _
 ·rw [List.getD_eq_getElem?_getD,List.getElem?_eq_none (by rw [List.length_drop,List.length_take,h3.mlen];omega)];exact Nat.zero_le _
theorem sub_row (i c:Nat):(i+1)*c-i*c=c:=by rw [Nat.succ_mul];omega
def rowl (zs:List Int) (c i:Nat):List Int:=(zs.take ((i+1)*c)).drop (i*c)
theorem ZF.row {w:World}{A:Option Addr}{r c cap K:Nat}{zs:List Int}(h:ZF w A (r*c) cap K zs){i:Nat}(hi:i<r):ZF w (if cap=i*c then A else A.map (·.add (i*c*2))) c (cap-i*c) K (rowl zs c i):=by
 have h1:=h.cut (lo:=i*c) (hi:=(i+1)*c) (Nat.mul_le_mul_right c (by omega)) (Nat.mul_le_mul_right c (by omega))
 rw [sub_row] at h1
 exact h1
theorem rowl_get {r c i j:Nat}{zs:List Int}{X:Mx}(h:En r c X zs) (hi:i<r) (hj:j<c):(rowl zs c i).getD j 0=X i j:=by
 rw [←h i j hi hj]
 unfold rowl
 simp only [List.getD_eq_getElem?_getD,List.getElem?_drop]
 rw [List.getElem?_take,if_pos (by rw [Nat.succ_mul];omega)]
theorem wlW_at {m:Nat}{P:Program}{Q:Exit→Act→World→Prop}{n:Nat}{l:Fr}{w:World}{ol:List Oper}{ops:Array Oper}(k:Nat) (hlo:¬LetsOut Q) (hnd:(ol.take k).all noDf=true)
  (h:wl P ops (Exit.then (fun a w=>wpListIn Fence.wide m P ops Q (ol.drop k) a w) Q) n (ol.take k) l w):wlW m P ops Q n ol l w:=by
 have:=wlW_split (m:=m) (ol.take k) (ol.drop k) hlo hnd h
 rwa [List.take_append_drop] at this
set_option maxHeartbeats 4000000 in
theorem g_mat_Lines1 {w:World}{r c cap K gm lp:Nat}{A:Option Addr}{xs:List Int}{X:Mx}(J:Nat→World→Prop) (hJm:∀k W,J k W→Bk W gm 24 [.int .i64 ((r:Nat):Int),.int .i64 ((c:Nat):Int),.slice A (r*c) cap]∧ZF W A (r*c) cap K xs) (hr:r≤64) (hc:c≤64) (hKB:K≤17179869184) (hX:En r c X xs) (hY:∀(k:Nat) W0 W1 LA lc zs,k<r→J k W0→Ext W0 W1→Lz none K 0 W1 W0.heap.size LA c lc zs→(∀j,j<c→zs.getD j 0=X k j)→YieldAt Fence.wide 8 Try.prog lp #[.int .i64 (k:Int),.slice LA c lc] W1 (fun e W'=>e= .returned (.bool true)∧J (k+1) W')) (h0:J 0 w):
    Calls Try.prog 86 #[.func (.yield lp) #[] #[],.pointer (some ⟨gm,0,none⟩)] w (fun e w'=>(∃v,e= .returned v)∧J r w'):=by
 obtain⟨hbm0,hzf0⟩:=hJm 0 w h0
 have hrc:=ix_64 hr hc
 refine sx_enter Try.func86 rfl (n:=27) rfl (bq rfl) (args:= [.func (.yield lp) #[] #[],.pointer (some ⟨gm,0,none⟩)]) ?_
 have hlt_gm:=hbm0.lt
 refine cw_keep [(0,.func (.yield lp) #[] #[]),(1,.pointer (some ⟨gm,0,none⟩))] ⟨rfl,rfl,trivial⟩ (sr (pf gm 0 rfl (by kernel_rfl) (wl_load rfl rfl (load_cell cellInt hbm0 rfl) (by decide) (mv 1 rfl (ne_ (cw_block ?_))))))
 refine cw_loop (T:=World×Nat) (fun⟨wr,i⟩=> [(0,.func (.yield lp) #[] #[]),(1,.pointer (some ⟨gm,0,none⟩)),(4,.pointer (some ⟨gm,0,none⟩)),(5,.int .i64 ((r:Nat):Int)),(6,.int .i64 ((i:Nat):Int))]) (fun⟨wr,i⟩=>wr) (fun⟨wr,i⟩=>(True)∧(i≤r)∧(J i wr)) (fun⟨wr,i⟩=>r-i)
  (⟨w,0⟩:World×Nat) ⟨trivial,(by omega),h0⟩ rfl ⟨rfl,rfl,rfl,rfl,rfl,trivial⟩ ?_
 rintro⟨wr,i⟩ ⟨hw1,hi_i,hJ⟩
 refine cw_re [(0,.func (.yield lp) #[] #[]),(1,.pointer (some ⟨gm,0,none⟩)),(4,.pointer (some ⟨gm,0,none⟩)),(5,.int .i64 ((r:Nat):Int)),(6,.int .i64 ((i:Nat):Int))] wr rfl ⟨rfl,rfl,rfl,rfl,rfl,trivial⟩ ?_
 obtain⟨hbm,hzf⟩:=hJm i wr hJ
 refine cw_seq ?_
 by_cases hir:i<r
 · 
  refine cw_region (wl_cmp rfl rfl rfl true (cb_lt_t (a:=i) (b:=r) rfl rfl (by omega)) (by decide) (ne_ (cw_seq (cw_true rfl (cw_skip (eo_then (cw_seq (cw_block (sr (mv 2 rfl (ne_ (cw_seq ?_))))))))))))
  have hx1:=ix_64 (show i≤64 by omega) hc
  have hx2:=ix_64 (show i+1≤64 by omega) hc
  have hx3:=Nat.mul_le_mul_right c (show i+1≤r by omega)
  have hx4:i*c≤(i+1)*c:=Nat.mul_le_mul_right c (by omega)
  obtain⟨ms9,hl9,hm9⟩:=hzf
  have hcap:=hl9.le
  have hzf:ZF wr A (r*c) cap K xs:=⟨ms9,hl9,hm9⟩
  refine cw_regionW 9 (wlW_at 15 (fun⟨_,_,h⟩=>by obtain⟨⟨_,hv⟩,_⟩:=h;cases hv) rfl (mv 2 rfl (pf gm 2 rfl (by kernel_rfl) (wl_load rfl rfl (load_cell cellInts hbm rfl) (by decide) (mv 1 rfl (pf gm 1 rfl (by kernel_rfl) (wl_load rfl rfl (load_cell cellInt hbm rfl) (by decide) (wl_ar rfl rfl rfl ((i*c:Nat):Int) (ai_mul (a:=i) (b:=c) rfl rfl (by omega)) (by decide) (mv 1 rfl (wl_ar rfl rfl rfl ((i+1:Nat):Int) (ai_add (a:=i) (b:=1) rfl rfl (by omega)) (by decide) (pf gm 1 rfl (by kernel_rfl) (wl_load rfl rfl (load_cell cellInt hbm rfl) (by decide) (wl_ar rfl rfl rfl (((i+1)*c:Nat):Int) (ai_mul (a:=i+1) (b:=c) rfl rfl (by omega)) (by decide) ?_)))))))))))))
  refine wl_slice rfl rfl elemI aggInt.size (lo:=i*c) (hi:=(i+1)*c) rfl rfl (by omega) (by omega) (v:= .slice (if cap=i*c then A else A.map (·.add (i*c*2))) c (cap-i*c)) (by rw [sub_row]) (by decide) (wl_call rfl rfl (vs:= [.slice (if cap=i*c then A else A.map (·.add (i*c*2))) c (cap-i*c),.func (.func 45) #[] #[]]) (by kernel_rfl) (by decide) (g_mat_each (b:=0) (lb:=wr.heap.size) (Nat.zero_le _) (Nat.le_refl _) (hzf.row hir) (by omega) hKB) ?_)
  rintro _ v1 ⟨x1,rfl,⟨LA,lc,rfl,lz⟩,e1⟩
  refine ret_intro (wl_nil (eo_thenL (wlW_yield [.int .i64 ((i:Nat):Int),.slice LA c lc] rfl rfl (by decide) (hY i wr v1 LA lc _ hir hJ e1 lz (fun j hj=>rowl_get hX hir hj)) ?_)))
  rintro _ v2 ⟨rfl,hJ2⟩
  refine ret_intro (wlW_wl (fun⟨_,_,h⟩=>by obtain⟨⟨_,hv⟩,_⟩:=h;cases hv) rfl (pu (v:= .bool false) rfl (by kernel_rfl) (ne_ (cw_false rfl (cw_skip (eo_block_normal (eo_then (cw_region (wl_ar rfl rfl rfl ((i+1:Nat):Int) (ai_add (a:=i) (b:=1) rfl rfl (by omega)) (by decide) (mv 1 rfl (wl_nil (eo_round (⟨v2,i+1⟩:World×Nat) ⟨trivial,(by omega),hJ2⟩ (show r-(i+1)<r-i by omega) rfl ⟨rfl,rfl,rfl,rfl,rfl,trivial⟩))))))))))))
 · 
  refine cw_region (wl_cmp rfl rfl rfl false (cb_lt_f (a:=i) (b:=r) rfl rfl (by omega)) (by decide) (ne_ (cw_seq (cw_false rfl (cw_exit (eo_thenX (eo_loopX (eo_block_here (eo_end [] rfl trivial ?_)))))))))
  exact⟨⟨_,rfl⟩,(show i=r by omega)▸hJ⟩
set_option maxHeartbeats 4000000 in
theorem g_mat_Lines {w:World}{r c K:Nat}{Aa:Option Addr}{na capa:Nat}{xs:List Int}(hxa:ZF w Aa na capa K xs) (hr:r≤64) (hc:c≤64) (hna:na=r*c) (hKB:K≤17179869184):
    Calls Try.prog 73 #[.agg #[.int .i64 ((r:Nat):Int),.int .i64 ((c:Nat):Int),.slice Aa na capa]] w (Gv w (fun v w'=>∃gm A cap,v= .func (.func 86) #[] #[.pointer (some ⟨gm,0,none⟩)]∧w.heap.size≤gm∧Bk w' gm 24 [.int .i64 (r:Int),.int .i64 (c:Int),.slice A na cap]∧Lz none K 0 w' w.heap.size A na cap xs)):=by
 have hlb:w.heap.size≤w.heap.size:=Nat.le_refl _
 have hxa0:=hxa
 obtain⟨msa,hla,hma⟩:=hxa
 refine sx_enter Try.func73 rfl (n:=11) rfl (bq rfl) (args:= [.agg #[.int .i64 ((r:Nat):Int),.int .i64 ((c:Nat):Int),.slice Aa na capa]]) (cw_keep [(0,.agg #[.int .i64 ((r:Nat):Int),.int .i64 ((c:Nat):Int),.slice Aa na capa])] ⟨rfl,trivial⟩ (sr (bx [.int .i64 ((r:Nat):Int),.int .i64 ((c:Nat):Int),.slice Aa na capa] (Ext.refl w) rfl rfl rfl fun g1 v2 hb4 ge5 e3 hw1=>(mv 1 rfl (ne_ (sr (lo aggMat hb4 [.int .i64 ((r:Nat):Int),.int .i64 ((c:Nat):Int),.slice Aa na capa] rfl rfl rfl ?_)))))))
 obtain⟨lb6,hlb6,hlelb6,hgl6,hq6_0⟩:∃lb,lb≤v2.heap.size∧v2.heap.size≤lb∧w.heap.size≤lb∧g1<lb:=⟨v2.heap.size,Nat.le_refl _,Nat.le_refl _,hw1.size,hb4.lt⟩
 refine cl (vs:= [.agg #[.int .i64 ((r:Nat):Int),.int .i64 ((c:Nat):Int),.slice Aa na capa]]) hw1 (g_mat_Least hw1.size hlb6 (hxa0.ext hw1) hr hc hna hKB) rfl (by kernel_rfl) fun xr9 v7 r9 e8 hw2=>?_
 obtain⟨_,_,rfl,⟨lv11,rfl,⟨LA12,lc12,rfl,lz12⟩⟩,r10_1⟩:=r9
 have blk13:=lz12.block
 obtain rfl:=r10_1
 refine mv 1 rfl (pu (v:= .agg #[.int .i64 ((r:Nat):Int),.int .i64 ((c:Nat):Int),.slice LA12 na lc12]) rfl (by kernel_rfl) (pu (v:= .int .i64 0) rfl (by kernel_rfl) (wl_alloc rfl (z:= .agg #[I0,I0,S0]) (vs:= [I0,I0,S0]) (fun _=>by kernel_rfl) rfl (by decide) fun g14 v15 nb=>?_)))
 have hb17:=nb.bk
 have ge18:w.heap.size≤g14:=by rw [←nb.at_];exact hw2.size
 have q19:g1<g14:=by rw [←nb.at_];exact (hb4.ext e8).lt
 have ne20:∀p:Addr,LA12=some p→p.block≠g14:=fun p hp=>by have:=(lz12).block p hp;have:=nb.at_;omega
 have e16:=nb.ext
 clear nb
 have hw3:=hw2.trans e16
 refine so aggMat hb17 [.int .i64 ((r:Nat):Int),.int .i64 ((c:Nat):Int),.slice LA12 na lc12] hw3 ge18 rfl rfl rfl rfl fun v21 hb23 u24 hw4=>(mv 1 rfl (ne_ (sr (pu (v:= .func (.func 86) #[] #[.pointer (some ⟨g14,0,none⟩)]) rfl (by kernel_rfl) (mv 1 rfl (ne_ (cw_ret (eo_ret [.func (.func 86) #[] #[.pointer (some ⟨g14,0,none⟩)]] rfl ⟨rfl,trivial⟩ ?_))))))))
 exact⟨_,rfl,⟨g14,LA12,lc12,rfl,ge18,hb23,(((lz12.ext e16).updT hb17 u24 ne20)).mono (Nat.le_refl _) (Nat.zero_le _) hgl6⟩,hw4⟩
theorem below_put {m l:Nat}(h:m≤l) (W:World) (hl:l<W.heap.size) (o:Obj):Below m W (W.putObj l o):=(Below.refl m W).grown (grownBy_putObj' W l o) (by omega) (fun k e=>by cases e;exact h)
section
variable {Q:Exit→Act→World→Prop}{n:Nat}{l:Fr}{w:World}
theorem cw_lines {g:Operand}{ps:Array Tmp}{assign body:Code}{r c cap K gm p0 p1:Nat}{A:Option Addr}{xs:List Int}{X:Mx}
  (hg:evo l g=some (.func (.func 86) #[] #[.pointer (some ⟨gm,0,none⟩)])) (hps:ps= #[p0,p1]) (hp0:p0<n) (hp1:p1<n) (hr:r≤64) (hc:c≤64) (hKB:K≤17179869184) (hX:En r c X xs)
  (I:Nat→Nat→World→Prop) (hIm:∀k b W,I k b W→Bk W gm 24 [.int .i64 (r:Int),.int .i64 (c:Int),.slice A (r*c) cap]∧ZF W A (r*c) cap K xs)
  (hIx:∀k b V W,I k b V→Ext V W→I k b W) (hIb:∀k b W,I k b W→I k W.heap.size W) (hIn:∀k b V W,I k b V→Nc V W→Below w.heap.size V W→I k b W) (h0:I 0 w.heap.size w) (l2:Value→Value→Fr)
  (hassign:∀(lp:Nat) (v0 v1:Value) (Kp:Act→World→Prop) (W:World),(∀a,Rp n (l2 v0 v1) a→Kp a W)→ci (Fence.wide.inRound lp) 8 Try.prog (Exit.then Kp (fun _ _ _=>False)) n assign ((p1,v1)::(p0,v0)::l) W)
  (hbody:∀(lp k b:Nat) (W:World) (LA:Option Addr) (lc:Nat) (zs:List Int) (Q':Exit→Act→World→Prop),k<r→I k b W→b≤W.heap.size→Lz none K 0 W b LA c lc zs→(∀j,j<c→zs.getD j 0=X k j)→¬LetsOut Q'→
   (∀a W',KeepsFrom w.heap.size W W'→I (k+1) W'.heap.size W'→Q' .normal a W')→ci (Fence.wide.inRound lp) 8 Try.prog Q' n body (l2 (.int .i64 (k:Int)) (.slice LA c lc)) W)
  (hdone:∀(D b:Nat) (W:World),w.heap.size≤D→I r b W→W.heap[D]?=some (.deferred (some []))→∀a,Rp n l a→Q .normal {a with defers:= [{target:= .collected D,args:= #[]}]} W):
  cw Try.prog Q n (.rangeFunc g ps assign body) l w:=by
 subst hps
 intro a ha
 refine (wpIn_wide (n:=9)).1 (wpIn_rangeFunc (fun fn hfn=>?_))
 obtain⟨rec,hrec⟩:∃rec:LoopState→Option Code→Loop,rec=fun st pe=>{state:=st,pending:=pe,fn,tmps:=a.tmps,params:= #[p0,p1],assign,body,defers:=w.heap.size}:=⟨_,rfl⟩
 obtain⟨W1,hW1⟩:∃W1,(w.alloc (.deferred (some []))).alloc (.loop (rec .ready none))=W1:=⟨_,rfl⟩
 have hL1:W1.heap[w.heap.size+1]?=some (.loop (rec .ready none)):=by
  rw [←hW1];have:=World.alloc_heap_new (w.alloc (.deferred (some []))) (.loop (rec .ready none));rwa [World.size_alloc] at this
 have hK1:W1.heap[w.heap.size]?=some (.deferred (some [])):=by
  rw [←hW1];exact (Below.heap_alloc _ _ _ (by simp)).trans (World.alloc_heap_new w _)
 have hE1:Ext w W1:=by rw [←hW1];exact ((Ext.refl w).alloc _).alloc _
 refine⟨w.heap.size+1,[{target:= .collected w.heap.size,args:= #[]}],W1,{target:= .fn (.func 86) #[.pointer (some ⟨gm,0,none⟩)],args:= #[.func (.yield (w.heap.size+1)) #[] #[]]},W1,86,
  #[.func (.yield (w.heap.size+1)) #[] #[],.pointer (some ⟨gm,0,none⟩)],W1,?_,?_,fun _ _=>trivial,?_,fun h=>(by cases h),?_⟩
 ·rw [←hW1,hrec];exact run_enterLoop_outer _ _ _ _ _
 ·simp only [resolve,ha.ev hg]
  simp [go_sem]
 ·have:=enters_of Try.func86 (by kernel_rfl) rfl #[.func (.yield (w.heap.size+1)) #[] #[],.pointer (some ⟨gm,0,none⟩)] W1
  simp [invoke,this]
 ·refine callsIn_wide.2 ((g_mat_Lines1 (w:=W1) (fun k W=>(∃b,I k b W)∧W.heap[w.heap.size+1]?=some (.loop (rec .ready none))∧W.heap[w.heap.size]?=some (.deferred (some []))) (fun k W hJ=>by obtain⟨⟨b,h⟩,_⟩:=hJ;exact hIm k b W h) hr hc hKB hX ?_ ⟨⟨_,hIx _ _ _ _ h0 hE1⟩,hL1,hK1⟩).mono ?_)
  ·intro k W0 W2 LA lc zs hk hJ e hz hent
   obtain⟨⟨b,hI⟩,hl,hd⟩:=hJ
   have hl2:=e.heap hl
   have hd2:=e.heap hd
   have hlt:w.heap.size+1<W2.heap.size:=(Array.getElem?_eq_some_iff.1 hl2).1
   have hy:=run_yield (P:=Try.prog) (args:= #[.int .i64 (k:Int),.slice LA c lc]) hl2 (by rw [hrec];rfl)
   rw [hrec] at hy
   refine⟨fn,_,assign,body,hy,roundIn_of_wpIn hfn ?_⟩
   have hact:({tmps:=((#[p0,p1]:Array Tmp).zip #[.int .i64 (k:Int),.slice LA c lc]).foldl (fun tmps (t,a)=>tmps.setIfInBounds t a) a.tmps,defers:= []}:Act)=(a.put (some p0) (.int .i64 (k:Int))).put (some p1) (.slice LA c lc):=by
    simp [Act.put,ha.nod]
   rw [hact]
   refine hassign (w.heap.size+1) _ _ _ W2 (fun a1 ha1=>?_) _ ((ha.put hp0 _).put hp1 _)
   have hlk:W2.heap[w.heap.size+1]?=some (.loop (rec .ready none)):=hl2
   refine⟨_,run_beginRound hlk (by rw [hrec]),?_⟩
   have hl3:(W2.putObj (w.heap.size+1) (.loop {rec .ready none with state:= .busy})).heap[w.heap.size+1]?=some (.loop {rec .ready none with state:= .busy}):=World.putObj_heap_same hlt
   have hd3:(W2.putObj (w.heap.size+1) (.loop {rec .ready none with state:= .busy})).heap[w.heap.size]?=some (.deferred (some [])):=(World.putObj_heap_other (by omega)).trans hd2
   have hnc:Nc W2 (W2.putObj (w.heap.size+1) (.loop {rec .ready none with state:= .busy})):=Nc.put _ hl2 rfl
   refine hbody (w.heap.size+1) k W0.heap.size _ LA lc zs _ hk (hIn _ _ _ _ (hIx _ _ _ _ (hIb _ _ _ hI) e) hnc (below_put (by omega) _ hlt _)) (Nat.le_trans e.size hnc.size) (hz.nc hnc) hent (fun⟨_,_,h⟩=>h) (fun a3 W3 hkf hI3=>?_) _ ha1
   have hl4:=hkf.same _ _ (by omega) hl3 rfl
   have hd4:=hkf.same _ _ (Nat.le_refl _) hd3 rfl
   have hr4:=run_endRound (P:=Try.prog) none hl4
   refine⟨_,_,hr4,rfl,⟨_,hIn _ _ _ _ hI3 (Nc.put _ hl4 rfl) (below_put (by omega) _ (Array.getElem?_eq_some_iff.1 hl4).1 _)⟩,?_,(World.putObj_heap_other (by omega)).trans hd4⟩
   rw [World.putObj_heap_same (Array.getElem?_eq_some_iff.1 hl4).1,hrec];rfl
  ·rintro e W2 ⟨⟨v,rfl⟩,⟨b,hI⟩,hl,hd⟩
   have hr2:=run_endLoop (P:=Try.prog) hl (by rw [hrec];simp)
   have hr3:(Instr.endLoop (w.heap.size+1)).run Try.prog W2= .ok none (W2.putObj (w.heap.size+1) (.loop {rec .ready none with state:= .exhausted})):=by
    rw [hr2,hrec]
   refine⟨none,_,hr3,?_⟩
   have:=hdone w.heap.size b _ (Nat.le_refl _) (hIn _ _ _ _ hI (Nc.put (.loop {rec .ready none with state:= .exhausted}) hl rfl) (below_put (by omega) _ (Array.getElem?_eq_some_iff.1 hl).1 _)) ((World.putObj_heap_other (by omega)).trans hd) a ha
   show Q .normal {a with defers:= [{target:= .collected w.heap.size,args:= #[]}]++a.defers} _
   rw [ha.nod]
   rw [hrec] at this⊢
   exact this
end
theorem sx_enterM {n:Nat}{w:World}{f:FuncId}{fn:Func}{c:Code}{args:List Value}{R:Ending→World→Prop}(hf:Try.prog.funcs[f]?=some fn) (hb:fn.body=some c) (hn:fn.ntmps=n) (hle:args.length≤n)
  (h:cw Try.prog (bodyPostM Fence.wide 9 Try.prog fn R) n c (argFr args 0) w):Calls Try.prog f args.toArray w R:=by
 refine (callsIn_wide (n:=9)).1 (callsIn_of_wp_marks hf hb trivial (wpIn_wide.2 (h _ ⟨?_,rfl,fun i v hi=>?_⟩)))
 ·simp [hn];omega
 ·obtain⟨_,h2⟩:=look_argFr args 0 i v hi
  rw [Nat.sub_zero] at h2
  have hlt:i<args.length:=(List.getElem?_eq_some_iff.1 h2).1
  simp only [Array.getD_eq_getD_getElem?]
  rw [Array.getElem?_append_left (by simpa using hlt)]
  simp [h2]
structure DR (E:World→World→Prop):Prop where
 refl:∀w,E w w
 trans:∀{a b c},E a b→E b c→E a c
 drew:∀w,E w w.drew
section
variable (E:World→World→Prop)
def DepE (ol:List Oper) (Rs:List (Value→World→Prop)) (w0 w1:World) (k:Fr→Prop):List Nat→Fr→Prop
 | [],acc=>k acc
 | j::ds,acc=>∀v wj,Rat Rs j v wj→E w0 wj→E wj w1→DepE ol Rs w0 w1 k ds (putl (dstOf ol j) v acc)
def PiE (w1:World) (d:Option Tmp) (R:Value→World→Prop):Exit→Act→World→Prop
 | .normal,a,w=>E w1 w∧R (slotv a d) w∧a.defers= []
 | _,_,_=>False
def HObE (P:Program) (n:Nat) (ol:List Oper) (Rs:List (Value→World→Prop)) (l:Fr) (w0:World) (i:Nat) (o:Oper) (ds:List Nat):Prop:=
 ∀w1,E w0 w1→DepE E ol Rs w0 w1 (fun acc=>wl P ol.toArray (PiE E w1 o.dst (Rat Rs i)) n [o] acc w1) ds l
def ObsE (P:Program) (n:Nat) (ol:List Oper) (Rs:List (Value→World→Prop)) (l:Fr) (w0:World):List (List Nat)→Nat→Prop
 | [],_=>True
 | ds::dss,i=>(match ol[i]? with | some o=>HObE E P n ol Rs l w0 i o ds | none=>True)∧ObsE P n ol Rs l w0 dss (i+1)
def FactE (ol:List Oper) (Rs:List (Value→World→Prop)) (w0:World) (i:Nat) (a:Act) (w:World):Prop:=∃w1,E w0 w1∧E w1 w∧Rat Rs i (slotv a (dstOf ol i)) w1
end
section
variable {E:World→World→Prop}{F:Fence}{mm:Nat}{P:Program}{Q:Exit→Act→World→Prop}{n:Nat}{ol:List Oper}{m:Nat}{Rs:List (Value→World→Prop)}{l:Fr}{w0:World}{dss rl:List (List Nat)}
theorem depe_nil {w1:World}{k:Fr→Prop}{acc:Fr}(h:k acc):DepE E ol Rs w0 w1 k [] acc:=h
theorem depe_cons {w1:World}{k:Fr→Prop}{acc:Fr}{j:Nat}{ds:List Nat}{R:Value→World→Prop}{d:Nat}
  (hR:Rs[j]?=some R) (hd:dstOf ol j=some d) (h:∀v wj,R v wj→E w0 wj→E wj w1→DepE E ol Rs w0 w1 k ds ((d,v)::acc)):DepE E ol Rs w0 w1 k (j::ds) acc:=by
 intro v wj hr e e'
 have e1:Rat Rs j=R:=by unfold Rat;rw [hR];rfl
 have e2:putl (dstOf ol j) v acc=(d,v)::acc:=by rw [hd];rfl
 rw [e1] at hr
 rw [e2]
 exact h v wj hr e e'
theorem pie_done {ops:Array Oper}{d:Nat}{w1 w:World}{R:Value→World→Prop}{v:Value}(hv:look l d=some v) (hx:E w1 w) (hR:R v w):wl P ops (PiE E w1 (some d) R) n [] l w:=
 wl_nil fun a ha=>⟨hx,by show R (a.tmps.getD d undef) w;rw [ha.val d v hv];exact hR,ha.nod⟩
theorem hobe {k:Nat}{o:Oper}{ds:List Nat}{R:Value→World→Prop}(hR:Rs[k]?=some R) (h:∀w1,E w0 w1→DepE E ol Rs w0 w1 (fun acc=>wl P ol.toArray (PiE E w1 o.dst R) n [o] acc w1) ds l):HObE E P n ol Rs l w0 k o ds:=by
 have e:Rat Rs k=R:=by unfold Rat;rw [hR];rfl
 intro w1 hw
 rw [e]
 exact h w1 hw
theorem obse_nil {k:Nat}:ObsE E P n ol Rs l w0 [] k:=trivial
theorem obse_cons {k:Nat}{ds:List Nat}{dss:List (List Nat)}{o:Oper}(ho:ol[k]?=some o) (h:HObE E P n ol Rs l w0 k o ds) (h':ObsE E P n ol Rs l w0 dss (k+1)):ObsE E P n ol Rs l w0 (ds::dss) k:=
 ⟨by rw [ho];exact h,h'⟩
theorem DepE.apply {w1:World}{k:Fr→Prop}{a:Act}:∀(ds:List Nat) (acc:Fr),(∀j∈ds,FactE E ol Rs w0 j a w1)→DepE E ol Rs w0 w1 k ds acc→Rp n acc a→∃acc',Rp n acc' a∧k acc'
 | [],acc,_,h,hr=>⟨acc,hr,h⟩
 | j::ds,acc,hf,h,hr=>by
  obtain⟨wj,e1,e2,hR⟩:=hf j (by simp)
  refine DepE.apply ds _ (fun i hi=>hf i (by simp [hi])) (h _ wj hR e1 e2) ?_
  cases hd:dstOf ol j with
  | none=>exact hr
  | some d=>exact hr.cons rfl
theorem obse_get:∀{dss:List (List Nat)}{k:Nat},ObsE E P n ol Rs l w0 dss k→∀(i:Nat) (o:Oper),ol[k+i]?=some o→i<dss.length→HObE E P n ol Rs l w0 (k+i) o ((dss[i]?).getD [])
 | [],_,_,i,_,_,hi=>by simp at hi
 | ds::dss,k,h,0,o,ho,_=>by
  have:=h.1
  rw [show ol[k]?=some o from ho] at this
  simpa using this
 | ds::dss,k,h,i+1,o,ho,hi=>by
  have e:k+(i+1)=k+1+i:=by omega
  have:=obse_get h.2 i o (by rw [←e];exact ho) (by simpa using hi)
  rw [e]
  simpa using this
theorem step_factsE (hE:DR E) (hk:DrawOk n ol m [] l dss rl){listed:Array Bool}{a:Act}{w w':World}{i:Nat}{o:Oper}(ho:ol[i]?=some o) (him:i<m)
  (hm:∀i,m≤i→i<ol.length→listed.getD i false=false) (hr:Rp n l a) (hfact:∀i,i<ol.length→listed.getD i false=true→FactE E ol Rs w0 i a w)
  (hx:E w0 w) (e:E w w'){v:Value}(hR:Rat Rs i v w'):
  Rp n l (a.put o.dst v)∧∀j,j<ol.length→(listed.setIfInBounds i true).getD j false=true→FactE E ol Rs w0 j (a.put o.dst v) w':=by
 obtain⟨d,hd,hdn,hfar,hother⟩:=hk.dst i o ho him
 rw [hd]
 refine⟨hr.put_far hfar v,fun j hj hlj=>?_⟩
 by_cases hij:i=j
 ·subst hij
  refine⟨w',hE.trans hx e,hE.refl _,?_⟩
  have e1:dstOf ol i=some d:=by unfold dstOf;rw [ho];exact hd
  rw [e1,slotv_put hr.size hdn]
  exact hR
 ·rw [_root_.Go.getD_set_ne false hij] at hlj
  have hjm:j<m:=by
   rcases Nat.lt_or_ge j m with h | h
   ·exact h
   ·rw [hm j h hj] at hlj;cases hlj
  obtain⟨w1,e1,e2,h1⟩:=hfact j hj hlj
  refine⟨w1,e1,hE.trans e2 e,?_⟩
  rw [slotv_far]
  ·exact h1
  ·obtain⟨oj,hoj⟩:∃oj,ol[j]?=some oj:=⟨_,List.getElem?_eq_getElem hj⟩
   unfold dstOf
   rw [hoj]
   exact hother j oj hoj (Ne.symm hij) hjm
theorem head_anyE (hE:DR E) (hk:DrawOk n ol m [] l dss rl) (ho:ObsE E P n ol Rs l w0 dss 0)
  (hfin:∀w1,E w0 w1→DepE E ol Rs w0 w1 (fun acc=>wl P ol.toArray (NP Q) n (ol.drop m) acc w1) (List.range m) l):
  ∀(fuel:Nat) (listed:Array Bool) (a:Act) (w:World),unl ol.length listed≤fuel→listed.size=ol.length→Closed ol listed→(∀i,m≤i→i<ol.length→listed.getD i false=false)→Rp n l a→E w0 w→
   (∀i,i<ol.length→listed.getD i false=true→FactE E ol Rs w0 i a w)→wpAny P .any ol.toArray (NP Q) fuel listed a w:=by
 intro fuel
 induction fuel with
 | zero=>
  intro listed a w hf hs hcl hm hr hx hfact
  have hall:∀i,i<ol.length→listed.getD i false=true:=by
   intro i hi
   cases h:listed.getD i false with
   | true=>rfl
   | false=>have:=unl_set hi hs h;omega
  have hml:m=ol.length:=by
   rcases Nat.lt_or_ge m ol.length with h | h
   ·have h1:=hm m (Nat.le_refl _) h
    rw [hall m h] at h1;cases h1
   ·have:=hk.mle;omega
  obtain⟨acc,hacc,hwl⟩:=DepE.apply (n:=n) (List.range m) l (fun j hj=>hfact j (by have:=List.mem_range.1 hj;omega) (hall j (by have:=List.mem_range.1 hj;omega))) (hfin w hx) hr
  exact tail_any hk 0 m listed a w (Nat.le_refl _) (by omega) hf hs hcl (fun i hi=>by rw [hall i hi];simp;omega) (hwl a hacc)
 | succ fuel ih=>
  intro listed a w hf hs hcl hm hr hx hfact
  by_cases hdone:∀i,i<m→listed.getD i false=true
  ·obtain⟨acc,hacc,hwl⟩:=DepE.apply (n:=n) (List.range m) l (fun j hj=>hfact j (by have:=List.mem_range.1 hj;have:=hk.mle;omega) (hdone j (List.mem_range.1 hj))) (hfin w hx) hr
   exact tail_any hk (fuel+1) m listed a w (Nat.le_refl _) hk.mle hf hs hcl (fun i hi=>by
    rcases Nat.lt_or_ge i m with h | h
    ·rw [hdone i h];simpa using h
    ·rw [hm i h hi];simp;omega) (hwl a hacc)
  ·obtain⟨j,hjm,hjl,hleast⟩:∃j,j<m∧listed.getD j false=false∧∀i,i<j→listed.getD i false=true:=by
    have key:∀k,(∃j,j<m∧j<k∧listed.getD j false=false)→∃j,j<m∧listed.getD j false=false∧∀i,i<j→listed.getD i false=true:=by
     intro k
     induction k with
     | zero=>rintro⟨j,_,h,_⟩;omega
     | succ k ihk=>
      rintro⟨j,h1,h2,h3⟩
      by_cases hs':∃j,j<m∧j<k∧listed.getD j false=false
      ·exact ihk hs'
      ·refine⟨j,h1,h3,fun i hi=>?_⟩
       cases hb:listed.getD i false with
       | true=>rfl
       | false=>exact absurd ⟨i,by omega,by omega,hb⟩ hs'
    refine key m (Classical.byContradiction fun hno=>hdone fun i hi=>?_)
    cases hb:listed.getD i false with
    | true=>rfl
    | false=>exact absurd ⟨i,hi,hi,hb⟩ hno
   have hml:=hk.mle
   obtain⟨oj,hoj⟩:∃oj,ol[j]?=some oj:=⟨_,List.getElem?_eq_getElem (by omega)⟩
   have hjr:j∈Region.ready .any ol.toArray listed:=ready_iff.2 ⟨by rw [getD_tf (by omega)];exact hjl,oj,hoj,fun e he hb=>hleast _ (hk.back j oj hoj e he hb)⟩
   have facts_of:∀(i:Nat) (o:Oper),ol[i]?=some o→i<m→i∈Region.ready .any ol.toArray listed→∀k∈(dss[i]?).getD [],FactE E ol Rs w0 k a w:=by
    intro i o hoi him hir k hkd
    have h1:=hk.deps i o hoi him k hkd
    obtain⟨_,o',ho',hall⟩:=ready_iff.1 hir
    rw [hoi] at ho'
    cases ho'
    have h2:=hcl.reach hk i o hoi hall k h1
    have h3:k<listed.size:=by
     rcases Nat.lt_or_ge k listed.size with h' | h'
     ·exact h'
     ·simp [Array.getElem?_eq_none h'] at h2
    exact hfact k (by omega) h2
   refine⟨fun h0=>(by rw [h0] at hjr;cases hjr),fun i hir=>?_⟩
   obtain⟨hun,o,hoi,hall⟩:=ready_iff.1 hir
   have hil:i<ol.length:=(List.getElem?_eq_some_iff.1 hoi).1
   have him:i<m:=by
    rcases Nat.lt_or_ge i m with h | h
    ·exact h
    ·rcases hk.tail i o hoi h j (by omega) with h1 | h1
     ·cases h1
     ·have:=hcl.reach hk i o hoi hall j h1
      rw [hjl] at this;cases this
   have hun':listed.getD i false=false:=by rw [←getD_tf (by omega)];exact hun
   have hob:=obse_get (k:=0) ho i o (by simpa using hoi) (by rw [hk.dlen];exact him)
   rw [Nat.zero_add] at hob
   obtain⟨acc,hacc,hwl⟩:=DepE.apply (n:=n) _ l (facts_of i o hoi him hir) (hob w hx) hr
   have hl:=hwl a hacc
   have next:∀v w',PiE E w o.dst (Rat Rs i) .normal (a.put o.dst v) w'→wpAny P .any ol.toArray (NP Q) fuel (listed.setIfInBounds i true) (a.put o.dst v) w':=by
    intro v w' hpi
    obtain⟨e,hR,_⟩:=hpi
    have hv:Rat Rs i v w':=by
     obtain⟨d,hd,hdn,_⟩:=hk.dst i o hoi him
     rw [hd,slotv_put hr.size hdn] at hR
     exact hR
    obtain⟨h1,h2⟩:=step_factsE hE hk hoi him hm hr hfact hx e hv
    refine ih _ _ w' (by have:=unl_set hil hs hun';omega) (by simpa using hs) (hcl.set hoi hall) (fun k hmk hk'=>?_) h1 (hE.trans hx e) h2
    rw [_root_.Go.getD_set_ne false (by omega)];exact hm k hmk hk'
   have nolets:¬LetsOut (PiE E w o.dst (Rat Rs i)):=fun⟨_,_,h⟩=>h
   unfold wpOp
   rw [arr_get,hoi]
   unfold wpList at hl
   simp only at hl⊢
   split at hl
   ·rename_i hw
    rw [if_pos hw]
    rcases hl with hl | hl
    ·exact Or.inl (wp_conv hl (fun _ _ _ h=>h) nolets (fun a w h=>h.2.2) (fun v w' h=>next v w' h))
    ·exact absurd hl.2 nolets
   ·rename_i hw
    rw [if_neg hw]
    exact next _ _ hl
theorem draw_anyE (hE:DR E){w:World}(hk:drawOk n ol m [] l dss rl=true) (ho:ObsE E P n ol Rs l w dss 0)
  (hfin:∀w1,E w w1→DepE E ol Rs w w1 (fun acc=>wl P ol.toArray (NP Q) n (ol.drop m) acc w1) (List.range m) l) (a:Act) (ha:Rp n l a):
  wpAny P .any ol.toArray (NP Q) ol.toArray.size (Array.replicate ol.toArray.size false) a {w with drawn:=w.drawn+1}:=by
 have hsz:(Array.replicate ol.toArray.size false).size=ol.length:=by simp
 have hfalse:∀i,(Array.replicate ol.toArray.size false).getD i false=false:=by
  intro i
  simp only [Array.getD_eq_getD_getElem?,Array.getElem?_replicate]
  split <;> rfl
 refine head_anyE hE (drawOk_spec hk) ho hfin ol.toArray.size _ a _ ?_ hsz (fun i o ho h=>by rw [hfalse i] at h;cases h) (fun i _ hi=>hfalse i) ha (hE.drew w) (fun i hi h=>by rw [hfalse i] at h;cases h)
 refine Nat.le_trans List.countP_le_length ?_
 simp
theorem ci_drawE {id:Nat}(hE:DR E){w:World}(hW:Wd F mm P) (hlo:¬LetsOut Q) (hnd:ol.all noDf=true) (hmix:P.follows .mixedOrders=true) (m:Nat) (Rs:List (Value→World→Prop)) (dss:List (List Nat)) (rl:List (List Nat)) (hk:drawOk n ol m [] l dss rl=true)
  (ho:ObsE E P n ol Rs l w dss 0) (hfin:∀w1,E w w1→DepE E ol Rs w w1 (fun acc=>wl P ol.toArray (NP Q) n (ol.drop m) acc w1) (List.range m) l):ci F mm P Q n (.region id ol.toArray true) l w:=fun a ha=>
 wpIn_mono (wpIn_region_any hmix (any_in hW (np_lets hlo) (fun i o h=>by
  rw [List.all_eq_true] at hnd
  refine hnd o ?_
  rw [List.getElem?_toArray] at h
  exact List.mem_of_getElem? h) _ _ _ _ (draw_anyE hE hk ho hfin a ha))) NP.imp
end
section
variable {B:Nat}{w w':World}
theorem Kf.of {row:Option Nat}(hg:w.grownBy w' row) (h:∀j,row=some j→∃o,w.heap[j]?=some o∧o.isCells=true):KeepsFrom B w w':=
 ⟨hg.size,fun k o _ hk ho=>(hg.block k (Array.getElem?_eq_some_iff.1 hk).1 (fun e=>by
  obtain⟨o',h1,h2⟩:=h k e.symm
  rw [hk] at h1;cases h1;rw [ho] at h2;cases h2)).trans hk⟩
theorem Ext.kf (e:Ext w w'):KeepsFrom B w w':=⟨e.size,fun _ _ _ hk _=>e.heap hk⟩
theorem Upd.kf {g:Nat}{t:TypeId}{vs:List Value}(u:Upd g w w') (hb:Bk w g t vs):KeepsFrom B w w':=Kf.of u.by_ (fun j e=>by cases e;exact⟨_,hb,rfl⟩)
theorem UpdO.kf {A:Option Addr}{lb:Nat}{t:TypeId}{s n c:Nat}{vs:List Value}(u:UpdO A w w') (ho:Own w lb t s A n c vs):KeepsFrom B w w':=Kf.of u.by_ (fun j e=>by
 rcases ho with⟨h,_⟩ | ⟨g,cs,rfl,_,hk,_⟩
 ·rw [h] at e;cases e
 ·cases e;exact⟨_,hk,rfl⟩)
end
def dfd (d:List Deferred) (a:Act):Act:={a with defers:=a.defers++d}
theorem dfd_put (d:List Deferred) (a:Act) (t:Option Tmp) (v:Value):dfd d (a.put t v)=(dfd d a).put t v:=by cases t <;> rfl
theorem dfd_eval (d:List Deferred) (a:Act):(dfd d a).eval=a.eval:=by funext x;cases x <;> rfl
section
variable {F:Fence}{m:Nat}{P:Program}{Q:Exit→Act→World→Prop}
theorem oper_df (d:List Deferred){o:Oper}{a:Act}{w:World}{K K':Act→World→Prop}(hK:∀a w,K a w→K' (dfd d a) w) (h:o.wpIn F m P a w K (fun e a w=>Q e (dfd d a) w)):o.wpIn F m P (dfd d a) w K' Q:=by
 obtain⟨h1,h2⟩:=h
 refine⟨by rw [dfd_eval];exact h1,?_⟩
 rw [dfd_eval]
 have hp:∀v,K' ((dfd d a).put o.dst v)=K' (dfd d (a.put o.dst v)):=fun v=>by rw [dfd_put]
 generalize (o.semAt F.round a.eval).run P w=r at h2
 cases r with
 | ok x w'=>
  cases x with
  | value v=>show K' _ _;rw [hp];exact hK _ _ h2
  | skip=>show K' _ _;rw [hp];exact hK _ _ h2
  | defer e=>
   have h3:K' (dfd d ({a with defers:=e::a.defers}.put o.dst undef)) w':=hK _ _ h2
   rw [dfd_put] at h3
   exact h3
  | enter f args=>
   refine⟨h2.1,h2.2.mono fun e w'' h3=>?_⟩
   cases e with
   | returned v=>show K' _ _;rw [hp];exact hK _ _ h3
   | panicked c=>exact h3
   | outgrown=>obtain⟨a',w3,h4⟩:=h3;exact⟨_,_,h4⟩
  | row s args=>exact⟨h2.1,RowsIn.mono h2.2 fun v w'' h3=>by show K' _ _;rw [hp];exact hK _ _ h3⟩
  | round lp f t asg bd=>
   refine⟨h2.1,h2.2.mono fun e w'' h3=>?_⟩
   cases e with
   | returned v=>show K' _ _;rw [hp];exact hK _ _ h3
   | panicked c=>exact h3
   | outgrown=>obtain⟨a',w3,h4⟩:=h3;exact⟨_,_,h4⟩
  | _=>exact h2
 | halt x w'=>
  cases x with
  | panic v=>exact h2
  | _=>exact h2
theorem list_df (d:List Deferred){ops:Array Oper}:∀(rest:List Oper) (a:Act) (w:World),wpListIn F m P ops (fun e a w=>Q e (dfd d a) w) rest a w→wpListIn F m P ops Q rest (dfd d a) w
 | [],a,w,h=>h
 | o::rest,a,w,h=>by
  unfold wpListIn at h⊢
  have e1:yielded ops (dfd d a).tmps=yielded ops a.tmps:=rfl
  rw [e1]
  split
  ·next hw=>
   rw [if_pos hw] at h
   exact oper_df d (fun a w h=>list_df d rest a w h) h
  ·next hw=>
   rw [if_neg hw] at h
   refine⟨by rw [dfd_eval];exact h.1,?_⟩
   have:=list_df d rest _ w h.2
   rw [dfd_put] at this
   exact this
end
section
variable {P:Program}
theorem run_appC {t ty e:TypeId}{z:Value}{s bytes:Nat}(ht:P.underlying t=some (.slice e)) (hinfo:(P.info? e).map (fun i=>(i.zero,i.size,i.bytes))=some (some z,s,bytes)) (hzs:z.cells.size=s) (hsz:0<s) (hby:bytes≤64)
  {w:World}{base:Nat}{A:Option Addr}{n cap:Nat}{xs:List Value}(hown:Own w base e s A n cap xs) (hb:base≤w.heap.size){a:Addr}{m c:Nat}{news:List Value}(hl:news.length=m*s) (hnews:∀j u,news[j]?=some u→w.cell? (a.add j)=some u)
  (h1:news.all (·.oneCell')=true) (hm:n+m≤1099511627776):
  ∃A' cap' w',(Builtin.append_ #[t,t] ty #[.slice A n cap,.slice (some a) m c]).run P w= .ok (.slice A' (n+m) cap') w'∧Own w' base e s A' (n+m) cap' (xs++news)∧((A'=A∧cap'=cap∧UpdO A w w')∨(Ext w w'∧∀a',A'=some a'→w.heap.size≤a'.block)):=by
 obtain⟨i,hi,hz,hz1,hz2⟩:=info_parts hinfo
 have h1':∀u∈news,u.oneCell'=true:=by simpa [List.all_eq_true] using h1
 have h63:n+m≤maxLen:=by rw [len_maxLen];omega
 have hbytes:(n+m)*bytes≤140737488355328:=by
  have:(n+m)*bytes≤1099511627776*64:=Nat.mul_le_mul hm hby
  omega
 rcases hown with⟨rfl,rfl,rfl,rfl⟩ | ⟨g,cs,rfl,hg,hk,hn,hcm,hcl,hv⟩
 ·obtain⟨v',w',hr,h2,h3,_⟩:=run_append_own (P:=P) w w.heap.size t ty e i z s bytes ht hi hz hz1 hz2 hzs hsz (.slice none 0 0) 0 [] (World.ownsRow_nil w _ e s) a m c news hl hnews h1' h63 hbytes (Nat.le_refl _)
  obtain⟨A',cap',rfl,ho⟩:=Own.of_row h2
  exact⟨A',cap',w',hr,ho.mono hb,Or.inr ⟨Ext.of_grown h3,fun a' ha=>(ho.block a' ha).1⟩⟩
 ·by_cases hroom:n+m≤cap
  ·have hfit:n*s+news.length≤cs.length:=by rw [hl,hcl,←Nat.add_mul];exact Nat.mul_le_mul_right s hroom
   obtain⟨w',hst,hb2,hu,hs⟩:=store_cells (P:=P) news 0 (n*s) w cs hk (by omega) h1'
   rw [Nat.add_zero] at hb2
   have hfc:=run_firstCells_some (P:=P) w i.size m a m c news (by rw [hz1];exact hl) hnews
   rw [hz1] at hfc
   refine⟨some ⟨g,0,none⟩,cap,w',?_,Or.inr ⟨g,_,rfl,hg,hb2,hroom,hcm,?_,?_⟩,Or.inl ⟨rfl,rfl,hu.updO⟩⟩
   ·simp [Builtin.append_,run_underlying ht,sizeOf,typeInfo,hi,Builtin.lenOf,hroom,hfc,Addr.add_lit,hz1,hst]
   ·unfold overl
    simp only [List.length_append,List.length_take,List.length_drop]
    omega
   ·rw [Nat.add_mul,←hl]
    exact overl_take hv (by omega)
  ·have hx:=hv
   obtain⟨v',w',hr,h2,h3⟩:=run_append_arg_grows (P:=P) w t ty e i z s bytes ht hi hz hz1 hz2 hzs hsz ⟨g,0,none⟩ n cap xs
    (by rw [←hv,List.length_take];have:=Nat.mul_le_mul_right s hn;omega)
    (fun j u hj=>by
     have hjl:=(List.getElem?_eq_some_iff.1 hj).1
     rw [add_lit0,Nat.zero_add,hk.cell (by rw [←hv,List.length_take] at hjl;omega)]
     rw [←hv,List.getElem?_take] at hj
     split at hj
     ·rw [List.getD_eq_getElem?_getD,hj];rfl
     ·cases hj) a m c news hl hnews (by omega) h63 hbytes
   obtain⟨A',cap',rfl,ho⟩:=Own.of_row h2
   exact⟨A',cap',w',hr,ho.mono hb,Or.inr ⟨Ext.of_grown h3,fun a' ha=>(ho.block a' ha).1⟩⟩
variable {Q:Exit→Act→World→Prop}{n:Nat}{l:Fr}{w:World}{ops:Array Oper}{rest:List Oper}{d:Nat}{ty:TypeId}{pos:String}{af:Array Edge}{gd:Option (Nat×Bool)}
theorem wl_appC {x y:Operand}{t e:TypeId}{z:Value}{s bytes k m c cap base:Nat}{A:Option Addr}{a:Addr}{xs:List Value}(hw:guardB ops l gd=some true) (hx:evo l x=some (.slice A k cap)) (hy:evo l y=some (.slice (some a) m c))
  (ht:P.underlying t=some (.slice e)) (hinfo:(P.info? e).map (fun i=>(i.zero,i.size,i.bytes))=some (some z,s,bytes)) (hzs:z.cells.size=s) (hsz:0<s) (hby:bytes≤64)
  (hown:Own w base e s A k cap xs) (hb:base≤w.heap.size) (news:List Value) (hl:news.length=m*s) (hnews:∀j u,news[j]?=some u→w.cell? (a.add j)=some u)
  (h1:news.all (·.oneCell')=true) (hm:k+m≤1099511627776) (hn:d<n)
  (h:∀A' cap' w',Own w' base e s A' (k+m) cap' (xs++news)→((A'=A∧cap'=cap∧UpdO A w w')∨(Ext w w'∧∀a',A'=some a'→w.heap.size≤a'.block))→wl P ops Q n rest ((d,.slice A' (k+m) cap')::l) w'):
  wl P ops Q n (⟨some d,.call {callee:= .builtin .append,args:= #[x,y],argTypes:= #[t,t]},ty,pos,af,gd⟩::rest) l w:=by
 obtain⟨A',cap',w',hr,h2,h3⟩:=run_appC (P:=P) (ty:=ty) ht hinfo hzs hsz hby hown hb hl hnews h1 hm
 refine wl_val hw hn (fun a' ha=>?_) (h A' cap' w' h2 h3)
 unfold execOp
 simp only [resolve,invoke,builtin,Sem.run_bind,Sem.run_pure,Result.andThen_ok,List.map_toArray,List.map_cons,List.map_nil,ha.ev hx,ha.ev hy]
 rw [hr]
 rfl
end
structure EA (L:Nat) (T:TypeId) (A:Option Addr) (k cap:Nat) (xs:List Value) (v:Value) (a b:World):Prop where
 u:UpdO A a b
 o1:Own a L T 1 A k cap xs→Own b L T 1 A k cap xs
 o2:Own a L T 1 A (k+1) cap (xs++ [v])→Own b L T 1 A (k+1) cap (xs++ [v])
def ApR (L:Nat) (T:TypeId) (A:Option Addr) (k cap:Nat) (xs:List Value) (v:Value) (B:Nat):Value→World→Prop:=fun r w=>
 ∃A' cap',r= .slice A' (k+1) cap'∧Own w L T 1 A' (k+1) cap' (xs++ [v])∧((A'=A∧cap'=cap)∨∀p,A'=some p→B≤p.block)
def BsR (T:TypeId) (v:Value) (B:Nat):Value→World→Prop:=fun r w=>∃g,r= .slice (some ⟨g,0,none⟩) 1 1∧B≤g∧Bk w g T [v]
section
variable {L:Nat}{T:TypeId}{A:Option Addr}{k cap:Nat}{xs:List Value}{v:Value}{a b:World}
theorem EA.of_ext (e:Ext a b):EA L T A k cap xs v a b:=⟨UO.ext (UO.refl _ _) e,(·.ext e),(·.ext e)⟩
theorem EA.dr:DR (EA L T A k cap xs v):=⟨fun w=>EA.of_ext (Ext.refl w),fun h k=>⟨UO.trans h.u k.u,fun x=>k.o1 (h.o1 x),fun x=>k.o2 (h.o2 x)⟩,fun w=>EA.of_ext (Ext.refl w).drew⟩
theorem EA.app {A':Option Addr}{cap':Nat}(ho:Own a L T 1 A k cap xs) (h:Own b L T 1 A' (k+1) cap' (xs++ [v])) (hc:(A'=A∧cap'=cap∧UpdO A a b)∨(Ext a b∧∀p,A'=some p→a.heap.size≤p.block)):EA L T A k cap xs v a b:=by
 rcases hc with⟨rfl,rfl,u⟩ | ⟨e,_⟩
 ·refine⟨u,fun _=>?_,fun _=>h⟩
  have hl:xs.length=k:=by have:=ho.rv.len;omega
  rcases h with⟨_,h0,_⟩ | ⟨g,cs,h1,h2,h3,h4,h5,h6,h7⟩
  ·omega
  ·refine Or.inr ⟨g,cs,h1,h2,h3,by omega,h5,h6,?_⟩
   have e:(cs.take ((k+1)*1)).take k=cs.take (k*1):=by rw [List.take_take];congr 1;omega
   rw [←e,h7,List.take_left' hl]
 ·exact EA.of_ext e
theorem ApR.lift {B:Nat}{r:Value}(h:ApR L T A k cap xs v B r a) (e:EA L T A k cap xs v a b) (hA:∀p,A=some p→p.block<B):ApR L T A k cap xs v B r b:=by
 obtain⟨A',cap',rfl,h1,h2⟩:=h
 rcases h2 with⟨rfl,rfl⟩ | h2
 ·exact⟨_,_,rfl,e.o2 h1,Or.inl ⟨rfl,rfl⟩⟩
 ·exact⟨_,_,rfl,h1.updO e.u (fun p q hp hq=>by have:=hA p hp;have:=h2 q hq;omega),Or.inr h2⟩
theorem BsR.lift {T':TypeId}{B:Nat}{r u:Value}(h:BsR T' u B r a) (e:EA L T A k cap xs v a b) (hA:∀p,A=some p→p.block<B):BsR T' u B r b:=by
 obtain⟨g,rfl,h1,h2⟩:=h
 exact⟨g,rfl,h1,h2.updO e.u (fun p hp=>by have:=hA p hp;omega)⟩
theorem ApR.kept {B:Nat}{A':Option Addr}{cap':Nat}(h2:(A'=A∧cap'=cap)∨∀p,A'=some p→B≤p.block){g:Nat}(hg:g<B) (hA:∀p,A=some p→p.block≠g):∀p,A'=some p→p.block≠g:=by
 rcases h2 with⟨rfl,rfl⟩ | h2
 ·exact hA
 ·intro p hp;have:=h2 p hp;omega
end
theorem cellPF:∀w,(isAgg 69).run Try.prog w= .ok false w:=fun _=>by kernel_rfl
theorem szPF:∀w,(sizeOf 69).run Try.prog w= .ok 1 w:=fun _=>by kernel_rfl
theorem szRows:∀w,(sizeOf 72).run Try.prog w= .ok 1 w:=fun _=>by kernel_rfl
theorem szNums:∀w,(sizeOf 73).run Try.prog w= .ok 1 w:=fun _=>by kernel_rfl
structure OfC (B L M gf gp gm:Nat) (Al Am:Option Addr):Prop where
 bf:B≤gf
 fp:gp≠gf
 fm:gm≠gf
 fM:gf<M
 fL:gf<L
 pL:gp<L
 mL:gm<L
 al:∀p,Al=some p→p.block<L
 am:∀p,Am=some p→p.block<L
 BL:B≤L
structure OfS (w0:World) (n K L M gf gp gm:Nat) (sl:Bool) (Al:Option Addr) (nl cl:Nat) (Am:Option Addr) (capm:Nat) (xs:List Int) (W:World):Prop where
 ext:Ext w0 W
 sz:L≤W.heap.size
 z:Zr W w0.heap.size sl Al nl cl 1
 p:Bk W gp 69 [.pointer (some ⟨gf,0,none⟩)]
 m:Bk W gm 24 [.int .i64 (n:Int),.int .i64 (n:Int),.slice Am (n*n) capm]
 l:Lz none K 0 W M Am (n*n) capm xs
section
variable {w0:World}{n K L M gf gp gm:Nat}{sl:Bool}{Al:Option Addr}{nl cl:Nat}{Am:Option Addr}{capm:Nat}{xs:List Int}{W W':World}
theorem OfS.ex (s:OfS w0 n K L M gf gp gm sl Al nl cl Am capm xs W) (e:Ext W W'):OfS w0 n K L M gf gp gm sl Al nl cl Am capm xs W':=⟨s.ext.trans e,Nat.le_trans s.sz e.size,s.z.ext e,s.p.ext e,s.m.ext e,s.l.ext e⟩
theorem OfS.nc (s:OfS w0 n K L M gf gp gm sl Al nl cl Am capm xs W) (c:Nc W W') (b:Below L W W') (hB:w0.heap.size≤L):OfS w0 n K L M gf gp gm sl Al nl cl Am capm xs W':=⟨⟨s.ext.below.trans (b.mono hB)⟩,Nat.le_trans s.sz c.size,s.z.nc c,s.p.nc c,s.m.nc c,s.l.nc c⟩
theorem OfS.updR {A:Option Addr}{T:TypeId}{k c:Nat}{us:List Value}(s:OfS w0 n K L M gf gp gm sl Al nl cl Am capm xs W) (C:OfC w0.heap.size L M gf gp gm Al Am) (ho:Own W L T 1 A k c us) (u:UpdO A W W') (hT:57≠T:=by decide):OfS w0 n K L M gf gp gm sl Al nl cl Am capm xs W':=
 ⟨u.ext s.ext (fun p hp=>Nat.le_trans C.BL (ho.block p hp).1),Nat.le_trans s.sz u.size,s.z.updOT ho u hT,s.p.updO u (fun p hp e=>by have:=(ho.block p hp).1;have:=C.pL;omega),s.m.updO u (fun p hp e=>by have:=(ho.block p hp).1;have:=C.mL;omega),
  s.l.updQ ho u (fun p q hp hq e=>by have:=(ho.block p hp).1;have:=C.am q hq;omega) hT⟩
theorem OfS.updF {us:List Value}(s:OfS w0 n K L M gf gp gm sl Al nl cl Am capm xs W) (C:OfC w0.heap.size L M gf gp gm Al Am) (hb:Bk W gf 75 us) (u:Upd gf W W'):OfS w0 n K L M gf gp gm sl Al nl cl Am capm xs W':=
 ⟨u.ext s.ext C.bf,Nat.le_trans s.sz u.size,s.z.updT hb u,s.p.updN u C.fp,s.m.updN u C.fm,s.l.updT hb u (fun p hp e=>by have:=(s.l.block p hp).1;have:=C.fM;omega)⟩
end
structure OfM (n L gf:Nat) (sl:Bool) (Al:Option Addr) (nl cl:Nat) (X:Mx) (kr kn b:Nat) (RA NA:Option Addr) (rcap ncap:Nat) (ra:Nat→Option Addr) (rc:Nat→Nat) (W:World):Prop where
 f:Bk W gf 75 [.slice RA kr rcap,.slice NA kn ncap,.bool false,.bool sl,.slice Al nl cl,.int .i64 0]
 R:Own W L 22 1 RA kr rcap ((List.range kr).map (rwv ra rc n))
 N:Own W L 3 1 NA kn ncap (((List.range kn).map (fun i:Nat=>(i:Int))).map I64)
 C:Rcs 17179869184 L kr n ra rc W X
 RN:∀p q,RA=some p→NA=some q→p.block≠q.block
 Rr:∀r,r<kr→∀p q,RA=some p→ra r=some q→p.block≠q.block
 Nr:∀r,r<kr→∀p q,NA=some p→ra r=some q→p.block≠q.block
 Rb:∀p,RA=some p→p.block<b
 Nb:∀p,NA=some p→p.block<b
 rb:∀r,r<kr→∀p,ra r=some p→p.block<b
def OfI (w0:World) (n K L M gf gp gm:Nat) (sl:Bool) (Al:Option Addr) (nl cl:Nat) (Am:Option Addr) (capm:Nat) (xs:List Int) (X:Mx) (k b:Nat) (W:World):Prop:=
 L≤b∧OfS w0 n K L M gf gp gm sl Al nl cl Am capm xs W∧∃RA NA rcap ncap ra rc,OfM n L gf sl Al nl cl X k k b RA NA rcap ncap ra rc W
theorem Rcs.low {K lb lb' n m:Nat}{ra:Nat→Option Addr}{rc:Nat→Nat}{w:World}{Z:Mx}(h:Rcs K lb n m ra rc w Z) (hl:lb'≤lb):Rcs K lb' n m ra rc w Z:=⟨fun r hr=>by obtain⟨zs,h1,h2⟩:=h.row r hr;exact⟨zs,h1.mono (Nat.le_refl _) (Nat.le_refl _) hl,h2⟩,h.dis⟩
theorem rows_succ {k n lc:Nat}{ra:Nat→Option Addr}{rc:Nat→Nat}{LA:Option Addr}:(List.range k).map (rwv ra rc n)++ [.slice LA n lc]=(List.range (k+1)).map (rwv (fun r=>if r=k then LA else ra r) (fun r=>if r=k then lc else rc r) n):=by
 rw [List.range_succ,List.map_append]
 congr 1
 ·refine List.map_congr_left fun r hr=>?_
  have:=List.mem_range.1 hr
  unfold rwv
  simp only [if_neg (show¬r=k by omega)]
 ·simp [rwv]
theorem nums_succ {k:Nat}:((List.range k).map (fun i:Nat=>(i:Int))).map I64++ [.int .i64 (k:Int)]=((List.range (k+1)).map (fun i:Nat=>(i:Int))).map I64:=by
 rw [List.range_succ,List.map_append,List.map_append];rfl
set_option maxHeartbeats 4000000 in
theorem g_brs_of {w:World}{n K:Nat}{Aa:Option Addr}{na capa:Nat}{xs:List Int}(hxa:ZF w Aa na capa K xs) (hn:n≤64) (hna:na=n*n){X:Mx}(hX:En n n X xs) (hKB:K≤17179869184):
  Calls Try.prog 43 #[.agg #[.int .i64 ((n:Nat):Int),.int .i64 ((n:Nat):Int),.slice Aa na capa]] w (Gv w (fun v w'=>∃g RA NA rcap ncap ra rc,v= .pointer (some ⟨g,0,none⟩)∧Apt w.heap.size n g RA NA ra∧Fld w.heap.size n g RA NA rcap ncap ra rc (List.range n) X false 1 0 w')):=by
 have hlb:w.heap.size≤w.heap.size:=Nat.le_refl _
 have hxa0:=hxa
 obtain⟨msa,hla,hma⟩:=hxa
 refine sx_enterM Try.func43 rfl (n:=34) rfl (bq rfl) (args:= [.agg #[.int .i64 ((n:Nat):Int),.int .i64 ((n:Nat):Int),.slice Aa na capa]]) (cw_keep [(0,.agg #[.int .i64 ((n:Nat):Int),.int .i64 ((n:Nat):Int),.slice Aa na capa])] ⟨rfl,trivial⟩ (sr (bx [.int .i64 ((n:Nat):Int),.int .i64 ((n:Nat):Int),.slice Aa na capa] (Ext.refl w) rfl rfl rfl fun g1 v2 hb4 ge5 e3 hw1=>(mv 1 rfl (ne_ (sr (cl (vs:= [.int .i64 1]) hw1 (g_zint_Of hw1.size (by decide) (by decide)) rfl (by kernel_rfl) fun xr8 v6 r8 e7 hw2=>?_)))))))
 obtain⟨s9,A9,n9,c9,rfl,z9⟩:=r8
 refine pu (v:= .agg #[S0,S0,F0,.bool s9,.slice A9 n9 c9,I0]) rfl (by kernel_rfl) (bxq [S0,S0,F0,.bool s9,.slice A9 n9 c9,I0] hw2 (hb4.ext e7).lt rfl rfl rfl fun g10 v11 hb13 ge14 q15 e12 hw3=>(wl_alloc rfl (z:= .pointer none) (vs:= [.pointer none]) (fun _=>by kernel_rfl) rfl (by decide) fun g16 v17 nb=>?_))
 have hb19:=nb.bk
 have ge20:w.heap.size≤g16:=by rw [←nb.at_];exact hw3.size
 have q21:g10<g16:=by rw [←nb.at_];exact hb13.lt
 have e18:=nb.ext
 clear nb
 have hw4:=hw3.trans e18
 refine wl_stored1 rfl rfl rfl szPF rfl hb19 (bq rfl) rfl [.pointer (some ⟨g10,0,none⟩)] rfl fun v22 hb24 u25 hs26=>?_
 have hw5:=u25.ext hw4 ge20
 refine ne_ (cw_seq (sr (lo aggMat ((hb4.ext (e7.trans (e12.trans e18))).updN u25 (by omega)) [.int .i64 ((n:Nat):Int),.int .i64 ((n:Nat):Int),.slice Aa na capa] rfl rfl rfl (cl (vs:= [.agg #[.int .i64 ((n:Nat):Int),.int .i64 ((n:Nat):Int),.slice Aa na capa]]) hw5 (g_mat_Lines (hxa0.ext hw5) hn hn hna hKB) rfl (by kernel_rfl) fun xr29 v27 r29 e28 hw6=>?_))))
 obtain⟨gm,Am,capm,rfl,hgm,hbm,hzm⟩:=r29
 refine ne_ (cw_block ?_)
 have hf0:=(hb13.ext e18).updN u25 (by omega)
 have hf1:=hf0.ext e28
 have hp1:=hb24.ext e28
 have hz1:=((z9.ext (e12.trans e18)).updT hb19 u25).ext e28
 have C:OfC w.heap.size v27.heap.size v22.heap.size g10 g16 gm A9 Am:=⟨ge14,by omega,(by have:=hf0.lt;omega),hf0.lt,hf1.lt,hp1.lt,hbm.lt,fun p hp=>(hz1.own.block p hp).2,fun p hp=>(hzm.block p hp).2,hw6.size⟩
 have S0:OfS w n K v27.heap.size v22.heap.size g10 g16 gm s9 A9 n9 c9 Am capm xs v27:=⟨hw6,Nat.le_refl _,hz1,hp1,by rw [←hna];exact hbm,by rw [←hna];exact hzm⟩
 refine cw_keep [(3,.pointer (some ⟨g16,0,none⟩)),(10,.func (.func 86) #[] #[.pointer (some ⟨gm,0,none⟩)])] ⟨rfl,rfl,trivial⟩ ?_
 refine cw_lines (A:=Am) (cap:=capm) (gm:=gm) (xs:=xs) (X:=X) (K:=K) (r:=n) (c:=n) (p0:=11) (p1:=12) rfl rfl (by decide) (by decide) hn hn hKB hX (OfI w n K v27.heap.size v22.heap.size g10 g16 gm s9 A9 n9 c9 Am capm xs X) ?_ ?_ ?_ ?_ ?_
  (fun v0 v1=>(5,v1)::(4,v0)::(12,v1)::(11,v0):: [(3,.pointer (some ⟨g16,0,none⟩)),(10,.func (.func 86) #[] #[.pointer (some ⟨gm,0,none⟩)])]) ?_ ?_ ?_
 ·rintro k b W ⟨_,S,_⟩
  exact⟨S.m,S.l.zf0⟩
 ·rintro k b V W ⟨hb,S,RA,NA,rcap,ncap,ra,rc,R⟩ x
  exact⟨hb,S.ex x,RA,NA,rcap,ncap,ra,rc,R.f.ext x,R.R.ext x,R.N.ext x,R.C.ext x,R.RN,R.Rr,R.Nr,R.Rb,R.Nb,R.rb⟩
 ·rintro k b W ⟨hb,S,RA,NA,rcap,ncap,ra,rc,R⟩
  exact⟨S.sz,S,RA,NA,rcap,ncap,ra,rc,R.f,R.R,R.N,R.C,R.RN,R.Rr,R.Nr,fun p hp=>(R.R.block p hp).2,fun p hp=>(R.N.block p hp).2,fun r hr p hp=>(R.C.lt r hr p hp).2⟩
 ·rintro k b V W ⟨hb,S,RA,NA,rcap,ncap,ra,rc,R⟩ x hbl
  exact⟨hb,S.nc x hbl C.BL,RA,NA,rcap,ncap,ra,rc,R.f.nc x,R.R.nc x,R.N.nc x,R.C.nc x,R.RN,R.Rr,R.Nr,R.Rb,R.Nb,R.rb⟩
 ·exact⟨Nat.le_refl _,S0,none,none,0,0,fun _=>none,fun _=>0,hf1,Own.nil _ _ _ _,Own.nil _ _ _ _,⟨fun r hr=>(by omega),fun r s hr=>(by omega)⟩,fun p q hp=>(by cases hp),fun r hr=>(by omega),fun r hr=>(by omega),fun p hp=>(by cases hp),fun p hp=>(by cases hp),fun r hr=>(by omega)⟩
 ·intro lp v0 v1 Kp W hk
  refine ci_seq (ci_region (Wd.round _ _ _) (then_lets (then_lets (fun⟨_,_,h⟩=>h))) rfl (mv 1 rfl (wl_nil (eo_thenI (ci_region (Wd.round _ _ _) (then_lets (fun⟨_,_,h⟩=>h)) rfl (mv 1 rfl (wl_nil ?_)))))))
  exact hk
 ·rintro lp k b W LA lc zs Q9 hk ⟨hLb,S,RA,NA,rcap,ncap,ra,rc,R⟩ hb hz hze hNL hQ
  have hf:=R.f
  have hp:=S.p
  have hsz:=S.sz
  have hAb:∀p,RA=some p→p.block<W.heap.size:=fun p hp=>(R.R.block p hp).2
  have hAp:∀p,RA=some p→p.block≠g16:=fun p hp e=>by have:=(R.R.block p hp).1;have:=C.pL;omega
  have hAf:∀p,RA=some p→p.block≠g10:=fun p hp e=>by have:=(R.R.block p hp).1;have:=C.fL;omega
  have hO:=R.R
  refine ci_block (ci_seq ?_)
  refine ci_drawE (E:=EA v27.heap.size 22 RA k rcap ((List.range k).map (rwv ra rc n)) (.slice LA n lc)) EA.dr (Wd.round _ _ _) (then_lets (block_lets hNL)) rfl mix 8 [Is (.pointer (some ⟨g10,0,none⟩)),Is (.pointer (some ⟨g10,0,none⟩)),Is (.pointer (some ⟨g10,0,none⟩)),Is (.pointer (some ⟨g10,0,none⟩)),Is (.slice RA k rcap),Is (.slice LA n lc),BsR 22 (.slice LA n lc) W.heap.size,ApR v27.heap.size 22 RA k rcap ((List.range k).map (rwv ra rc n)) (.slice LA n lc) W.heap.size] [[],[],[1],[2],[3],[],[5],[4,6]] [[],[],[1],[1,2],[1,2,3],[],[5],[1,2,3,4,5,6],[0,1,2,3,4,5,6,7],[0,1,2,3,4,5,6,7,8],[0,1,2,3,4,5,6,7,8,9]] rfl
   (obse_cons rfl (hobe rfl ?_) (obse_cons rfl (hobe rfl ?_) (obse_cons rfl (hobe rfl ?_) (obse_cons rfl (hobe rfl ?_) (obse_cons rfl (hobe rfl ?_) (obse_cons rfl (hobe rfl ?_) (obse_cons rfl (hobe rfl ?_) (obse_cons rfl (hobe rfl ?_) obse_nil)))))))) ?_
  ·intro v e
   refine depe_nil (wl_load rfl rfl (load_cell cellPF (hp.updO e.u hAp) rfl) (by decide) ?_)
   exact pie_done rfl (EA.dr.refl _) rfl
  ·intro v e
   refine depe_nil (wl_load rfl rfl (load_cell cellPF (hp.updO e.u hAp) rfl) (by decide) ?_)
   exact pie_done rfl (EA.dr.refl _) rfl
  ·intro v e
   refine depe_cons rfl rfl fun x0 y0 h0 e0 f0=>?_
   obtain rfl:=h0
   refine depe_nil (pf g10 0 rfl (by kernel_rfl) ?_)
   exact pie_done rfl (EA.dr.refl _) rfl
  ·intro v e
   refine depe_cons rfl rfl fun x0 y0 h0 e0 f0=>?_
   obtain rfl:=h0
   refine depe_nil (pf g10 0 rfl (by kernel_rfl) ?_)
   exact pie_done rfl (EA.dr.refl _) rfl
  ·intro v e
   refine depe_cons rfl rfl fun x0 y0 h0 e0 f0=>?_
   obtain rfl:=h0
   refine depe_nil (wl_load rfl rfl (load_cell cellRows (hf.updO e.u hAf) rfl) (by decide) ?_)
   exact pie_done rfl (EA.dr.refl _) rfl
  ·intro v e
   refine depe_nil (mv 1 rfl ?_)
   exact pie_done rfl (EA.dr.refl _) rfl
  ·intro v e
   refine depe_cons rfl rfl fun x0 y0 h0 e0 f0=>?_
   obtain rfl:=h0
   refine depe_nil (wl_bslice rfl rfl (by decide) (k:=1) (e:=22) [.slice LA n lc] (fun _=>by kernel_rfl) fun g w2 nb=>?_)
   exact pie_done rfl (EA.of_ext nb.ext) ⟨g,rfl,by rw [←nb.at_];exact e.u.size,nb.bk⟩
  ·intro v e
   refine depe_cons rfl rfl fun x0 y0 h0 e0 f0=>?_
   obtain rfl:=h0
   refine depe_cons rfl rfl fun x1 y1 h1 e1 f1=>?_
   obtain⟨g,rfl,hg,hbg⟩:=h1.lift f1 hAb
   refine depe_nil ?_
   have ho:=e.o1 hO
   refine wl_appC (z:= .slice none 0 0) (s:=1) (bytes:=24) (e:=22) rfl rfl rfl (by kernel_rfl) (by kernel_rfl) rfl (by decide) (by decide) ho (Nat.le_trans hsz e.u.size) [.slice LA n lc] rfl (one_news3 _ hbg) rfl (by omega) (by decide) fun A1 c1 w2 ho2 hc2=>?_
   exact pie_done rfl (EA.app ho ho2 hc2) ⟨_,_,rfl,ho2,hc2.imp (fun h=>⟨h.1,h.2.1⟩) (fun h p hp=>Nat.le_trans e.u.size (h.2 p hp))⟩
  intro w1 e1
  refine depe_cons rfl rfl fun x0 y0 h0 e10 f0=>?_
  obtain rfl:=h0
  refine depe_cons rfl rfl fun x1 y1 h1 e11 f1=>?_
  obtain rfl:=h1
  refine depe_cons rfl rfl fun x2 y2 h2 e12 f2=>?_
  obtain rfl:=h2
  refine depe_cons rfl rfl fun x3 y3 h3 e13 f3=>?_
  obtain rfl:=h3
  refine depe_cons rfl rfl fun x4 y4 h4 e14 f4=>?_
  obtain rfl:=h4
  refine depe_cons rfl rfl fun x5 y5 h5 e15 f5=>?_
  obtain rfl:=h5
  refine depe_cons rfl rfl fun x6 y6 h6 e16 f6=>?_
  obtain⟨g9,rfl,hg9,hbg9⟩:=h6
  refine depe_cons rfl rfl fun x7 y7 h7 e17 f7=>?_
  obtain⟨A1,c1,rfl,ho1,hc1⟩:=h7.lift f7 hAb
  refine depe_nil (pf g10 0 rfl (by kernel_rfl) (pf g10 0 rfl (by kernel_rfl) ?_))
  have hf1:=hf.updO e1.u hAf
  refine wl_stored1 rfl rfl rfl szRows rfl hf1 (bq rfl) rfl [.slice A1 (k+1) c1,.slice NA k ncap,F0,.bool s9,.slice A9 n9 c9,I0] rfl fun w2 hf2 u2 hs2=>(wl_nil (eo_np (eo_thenI ?_)))
  have S2:=(S.updR C hO e1.u).updF C hf1 u2
  have hz2:=(hz.updQ hO e1.u (fun p q hp hq e=>by have:=R.Rb p hp;have:=(hz.block q hq).1;omega)).updT hf1 u2 (fun p hp e=>by have:=(hz.block p hp).1;have:=C.fL;omega)
  have hR2:=ho1.updT hf1 (by decide) u2
  have hN2:=(R.N.updO e1.u R.RN).updT hf1 (by decide) u2
  have hC2:=(R.C.updQ hO e1.u R.Rr).updT hf1 u2 (fun r hr p hp e=>by have:=(R.C.lt r hr p hp).1;have:=C.fL;omega)
  have hsz2:W.heap.size≤w2.heap.size:=Nat.le_trans e1.u.size u2.by_.size
  have R2:OfM n v27.heap.size g10 s9 A9 n9 c9 X (k+1) k w2.heap.size A1 NA c1 ncap (fun r=>if r=k then LA else ra r) (fun r=>if r=k then lc else rc r) w2:=by
   refine⟨hf2,?_,hN2,⟨fun r hr=>?_,fun r s hr hs hrs p q hp hq=>?_⟩,fun p q hp hq=>?_,fun r hr p q hp hq=>?_,fun r hr p q hp hq=>?_,fun p hp=>(hR2.block p hp).2,fun p hp=>(hN2.block p hp).2,fun r hr p hp=>?_⟩
   ·rw [←rows_succ];exact hR2
   ·by_cases e:r=k
    ·subst e
     simp only
     exact⟨zs,hz2.mono hKB (Nat.le_refl _) hLb,hze⟩
    ·simp only [if_neg e]
     exact hC2.row r (by omega)
   ·split at hp
    ·split at hq
     ·omega
     ·have:=(hz.block p hp).1;have:=R.rb s (by omega) q hq;omega
    ·split at hq
     ·have:=(hz.block q hq).1;have:=R.rb r (by omega) p hp;omega
     ·exact R.C.dis r s (by omega) (by omega) hrs p q hp hq
   ·rcases hc1 with⟨rfl,rfl⟩ | h
    ·exact R.RN p q hp hq
    ·have:=h p hp;have:=(R.N.block q hq).2;omega
   ·rcases hc1 with⟨rfl,rfl⟩ | h
    ·split at hq
     ·have:=R.Rb p hp;have:=(hz.block q hq).1;omega
     ·exact R.Rr r (by omega) p q hp hq
    ·split at hq
     ·have:=h p hp;have:=(hz.block q hq).2;omega
     ·have:=h p hp;have:=(R.C.lt r (by omega) q hq).2;omega
   ·split at hq
    ·have:=R.Nb p hp;have:=(hz.block q hq).1;omega
    ·exact R.Nr r (by omega) p q hp hq
   ·split at hp
    ·exact (hz2.block p hp).2
    ·exact (hC2.lt r (by omega) p hp).2
  have hkf:KeepsFrom v27.heap.size W w2:=(e1.u.kf hO).trans (u2.kf hf1)
  clear hf1 hf2 hR2 hN2 hC2 e1 u2 hO hAf hAp hAb hf hp hsz
  generalize (fun r=>if r=k then LA else ra r)=ra2 at R2
  generalize (fun r=>if r=k then lc else rc r)=rc2 at R2
  have hf:=R2.f
  have hp:=S2.p
  have hsz:=S2.sz
  have hAb:∀p,NA=some p→p.block<w2.heap.size:=fun p hp=>(R2.N.block p hp).2
  have hAp:∀p,NA=some p→p.block≠g16:=fun p hp e=>by have:=(R2.N.block p hp).1;have:=C.pL;omega
  have hAf:∀p,NA=some p→p.block≠g10:=fun p hp e=>by have:=(R2.N.block p hp).1;have:=C.fL;omega
  have hO:=R2.N
  generalize A1=RAx at*
  generalize c1=rcx at*
  refine ci_drawE (E:=EA v27.heap.size 3 NA k ncap (((List.range k).map (fun i:Nat=>(i:Int))).map I64) (.int .i64 (k:Int))) EA.dr (Wd.round _ _ _) (block_lets hNL) rfl mix 8 [Is (.pointer (some ⟨g10,0,none⟩)),Is (.pointer (some ⟨g10,0,none⟩)),Is (.pointer (some ⟨g10,0,none⟩)),Is (.pointer (some ⟨g10,1,none⟩)),Is (.slice NA k ncap),Is (.int .i64 (k:Int)),BsR 3 (.int .i64 (k:Int)) w2.heap.size,ApR v27.heap.size 3 NA k ncap (((List.range k).map (fun i:Nat=>(i:Int))).map I64) (.int .i64 (k:Int)) w2.heap.size] [[],[],[1],[2],[3],[],[5],[4,6]] [[],[],[1],[1,2],[1,2,3],[],[5],[1,2,3,4,5,6],[0,1,2,3,4,5,6,7],[0,1,2,3,4,5,6,7,8],[0,1,2,3,4,5,6,7,8,9]] rfl
   (obse_cons rfl (hobe rfl ?_) (obse_cons rfl (hobe rfl ?_) (obse_cons rfl (hobe rfl ?_) (obse_cons rfl (hobe rfl ?_) (obse_cons rfl (hobe rfl ?_) (obse_cons rfl (hobe rfl ?_) (obse_cons rfl (hobe rfl ?_) (obse_cons rfl (hobe rfl ?_) obse_nil)))))))) ?_
  ·intro v e
   refine depe_nil (wl_load rfl rfl (load_cell cellPF (hp.updO e.u hAp) rfl) (by decide) ?_)
   exact pie_done rfl (EA.dr.refl _) rfl
  ·intro v e
   refine depe_nil (wl_load rfl rfl (load_cell cellPF (hp.updO e.u hAp) rfl) (by decide) ?_)
   exact pie_done rfl (EA.dr.refl _) rfl
  ·intro v e
   refine depe_cons rfl rfl fun x0 y0 h0 e0 f0=>?_
   obtain rfl:=h0
   refine depe_nil (pf g10 0 rfl (by kernel_rfl) ?_)
   exact pie_done rfl (EA.dr.refl _) rfl
  ·intro v e
   refine depe_cons rfl rfl fun x0 y0 h0 e0 f0=>?_
   obtain rfl:=h0
   refine depe_nil (pf g10 1 rfl (by kernel_rfl) ?_)
   exact pie_done rfl (EA.dr.refl _) rfl
  ·intro v e
   refine depe_cons rfl rfl fun x0 y0 h0 e0 f0=>?_
   obtain rfl:=h0
   refine depe_nil (wl_load rfl rfl (load_cell cellNums (hf.updO e.u hAf) rfl) (by decide) ?_)
   exact pie_done rfl (EA.dr.refl _) rfl
  ·intro v e
   refine depe_nil (mv 1 rfl ?_)
   exact pie_done rfl (EA.dr.refl _) rfl
  ·intro v e
   refine depe_cons rfl rfl fun x0 y0 h0 e0 f0=>?_
   obtain rfl:=h0
   refine depe_nil (wl_bslice rfl rfl (by decide) (k:=1) (e:=3) [.int .i64 (k:Int)] (fun _=>by kernel_rfl) fun g w5 nb=>?_)
   exact pie_done rfl (EA.of_ext nb.ext) ⟨g,rfl,by rw [←nb.at_];exact e.u.size,nb.bk⟩
  ·intro v e
   refine depe_cons rfl rfl fun x0 y0 h0 e0 f0=>?_
   obtain rfl:=h0
   refine depe_cons rfl rfl fun x1 y1 h1 e1 f1=>?_
   obtain⟨g,rfl,hg,hbg⟩:=h1.lift f1 hAb
   refine depe_nil ?_
   have ho:=e.o1 hO
   refine wl_appC (z:= .int .i64 0) (s:=1) (bytes:=8) (e:=3) rfl rfl rfl (by kernel_rfl) (by kernel_rfl) rfl (by decide) (by decide) ho (Nat.le_trans hsz e.u.size) [.int .i64 (k:Int)] rfl (one_news3 _ hbg) rfl (by omega) (by decide) fun A1 c1 w5 ho2 hc2=>?_
   exact pie_done rfl (EA.app ho ho2 hc2) ⟨_,_,rfl,ho2,hc2.imp (fun h=>⟨h.1,h.2.1⟩) (fun h p hp=>Nat.le_trans e.u.size (h.2 p hp))⟩
  intro w3 e1
  refine depe_cons rfl rfl fun x0 y0 h0 e10 f0=>?_
  obtain rfl:=h0
  refine depe_cons rfl rfl fun x1 y1 h1 e11 f1=>?_
  obtain rfl:=h1
  refine depe_cons rfl rfl fun x2 y2 h2 e12 f2=>?_
  obtain rfl:=h2
  refine depe_cons rfl rfl fun x3 y3 h3 e13 f3=>?_
  obtain rfl:=h3
  refine depe_cons rfl rfl fun x4 y4 h4 e14 f4=>?_
  obtain rfl:=h4
  refine depe_cons rfl rfl fun x5 y5 h5 e15 f5=>?_
  obtain rfl:=h5
  refine depe_cons rfl rfl fun x6 y6 h6 e16 f6=>?_
  obtain⟨g9,rfl,hg9,hbg9⟩:=h6
  refine depe_cons rfl rfl fun x7 y7 h7 e17 f7=>?_
  obtain⟨A1,c1,rfl,ho1,hc1⟩:=h7.lift f7 hAb
  refine depe_nil (pf g10 0 rfl (by kernel_rfl) (pf g10 1 rfl (by kernel_rfl) ?_))
  have hf1:=hf.updO e1.u hAf
  refine wl_stored1 rfl rfl rfl szNums rfl hf1 (bq rfl) rfl [.slice RAx (k+1) rcx,.slice A1 (k+1) c1,F0,.bool s9,.slice A9 n9 c9,I0] rfl fun w4 hf2 u2 hs2=>(wl_nil (eo_np (eo_block_normal ?_)))
  have S4:=(S2.updR C hO e1.u).updF C hf1 u2
  have hN4:=ho1.updT hf1 (by decide) u2
  have hR4:=(R2.R.updO e1.u (fun p q hp hq e=>R2.RN q p hq hp e.symm)).updT hf1 (by decide) u2
  have hC4:=(R2.C.updQ hO e1.u R2.Nr).updT hf1 u2 (fun r hr p hp e=>by have:=(R2.C.lt r hr p hp).1;have:=C.fL;omega)
  rw [nums_succ] at hN4
  refine fun a ha=>hQ _ _ (hkf.trans ((e1.u.kf hO).trans (u2.kf hf1))) ⟨S4.sz,S4,_,_,_,_,_,_,hf2,hR4,hN4,hC4,fun p q hp hq=>?_,fun r hr p q hp hq=>R2.Rr r hr p q hp hq,fun r hr p q hp hq=>?_,fun p hp=>(hR4.block p hp).2,fun p hp=>(hN4.block p hp).2,fun r hr p hp=>(hC4.lt r hr p hp).2⟩
  ·rcases hc1 with⟨rfl,rfl⟩ | h
   ·exact R2.RN p q hp hq
   ·have:=h q hq;have:=(R2.R.block p hp).2;omega
  ·rcases hc1 with⟨rfl,rfl⟩ | h
   ·exact R2.Nr r hr p q hp hq
   ·have:=h p hp;have:=(R2.C.lt r hr q hq).2;omega
 ·rintro D b W hD ⟨hb,S,RA,NA,rcap,ncap,ra,rc,R⟩ hK a ha
  have hm:w.heap.size≤v27.heap.size:=C.BL
  have hnc:=Nc.put (.deferred none) hK rfl
  have hbl:=below_put hD W (Array.getElem?_eq_some_iff.1 hK).1 (.deferred none)
  have S9:=S.nc hnc hbl hm
  have f9:=R.f.nc hnc
  have R9:=(R.R.nc hnc).mono hm
  have N9:=(R.N.nc hnc).mono hm
  have C9:=(R.C.nc hnc).low hm
  have hA:Apt w.heap.size n g10 RA NA ra:=⟨C.bf,fun p hp e=>by have:=(R.R.block p hp).1;have:=C.fL;omega,fun p hp e=>by have:=(R.N.block p hp).1;have:=C.fL;omega,fun r hr p hp e=>by have:=(R.C.lt r hr p hp).1;have:=C.fL;omega,R.RN,R.Rr,R.Nr⟩
  show Code.wp _ (Code.seq _ _) _ _ _
  refine wp_seq ((wpIn_wide (n:=9)).1 (wpIn_region_lit ?_))
  have ea:({a with defers:= [{target:= .collected D,args:= #[]}]}:Act)=dfd [{target:= .collected D,args:= #[]}] a:=by
   unfold dfd;rw [ha.nod];rfl
  rw [ea]
  refine list_df _ _ _ _ (wlW_wl (n:=34) (l:= [(3,.pointer (some ⟨g16,0,none⟩)),(10,.func (.func 86) #[] #[.pointer (some ⟨gm,0,none⟩)])]) ?_ rfl ?_ a ha)
  ·rintro⟨_,_,h⟩
   obtain⟨_,h,_⟩:=h
   cases h
  refine wl_load rfl rfl (load_cell cellPF S.p rfl) (by decide) (mv 1 rfl (wl_nil ?_))
  intro a2 ha2
  show Code.wp _ .ret _ _ _
  refine wp_ret ?_
  show LeavesInM _ _ _ _ _ _ (a2.defers++ [{target:= .collected D,args:= #[]}]) _ _
  rw [ha2.nod]
  show LeavesInM _ _ _ _ _ _ [{target:= .collected D,args:= #[]}] _ _
  unfold LeavesInM LeavesInM
  refine⟨by simp,.inl ⟨_,_,rfl,run_takeDeferred hK,_,results_tmp rfl _ _ _,?_⟩⟩
  refine⟨_,congrArg _ (ha2.val 2 _ rfl),?_,S9.ext⟩
  exact⟨_,RA,NA,rcap,ncap,ra,rc,rfl,hA,_,_,_,_,_,f9,S9.z.mono (Nat.zero_le _),R9,N9,C9⟩
set_option maxHeartbeats 4000000 in
set_option maxRecDepth 20000 in
theorem g_brs_Det {w:World}{b:Nat}(hb:b≤w.heap.size){n:Nat}{X:Mx}{Aa:Option Addr}{na capa:Nat}{xs:List Int}(hxa:ZF w Aa na capa 1048576 xs) (hna:na=n*n) (hn:n≤64) (hX:En n n X xs):
    Calls Try.prog 15 #[.agg #[.int .i64 ((n:Nat):Int),.int .i64 ((n:Nat):Int),.slice Aa na capa]] w (Gv w (T2 (ZR b (dt n X)) (Is (.int .i64 0)))):=by
 have hXl:∀i j,i<n→j<n→ln (X i j)≤1048576:=fun i j hi hj=>hX.ln hxa hi hj
 obtain⟨msa,hla,hma⟩:=hxa
 refine sx_enter Try.func15 rfl (n:=46) rfl (bq rfl) (args:= [.agg #[.int .i64 ((n:Nat):Int),.int .i64 ((n:Nat):Int),.slice Aa na capa]]) (cw_keep [(0,.agg #[.int .i64 ((n:Nat):Int),.int .i64 ((n:Nat):Int),.slice Aa na capa])] ⟨rfl,trivial⟩ (sr (bx [.int .i64 ((n:Nat):Int),.int .i64 ((n:Nat):Int),.slice Aa na capa] (Ext.refl w) rfl rfl rfl fun g1 v2 hb4 ge5 e3 hw1=>(alq [F0,S0] hw1 hb4.lt (fun _=>by kernel_rfl) rfl fun g6 v7 hb9 ge10 q11 e8 hw2=>(mv 1 rfl (ne_ (cw_seq (sr (lo aggMat (hb4.ext e8) [.int .i64 ((n:Nat):Int),.int .i64 ((n:Nat):Int),.slice Aa na capa] rfl rfl rfl (cl (vs:= [.agg #[.int .i64 ((n:Nat):Int),.int .i64 ((n:Nat):Int),.slice Aa na capa]]) hw2 (g_mat_Check_yes (snd_mk hn hn hna)) rfl (by kernel_rfl) fun xr14 v12 r14 e13 hw3=>?_))))))))))
 obtain rfl:=r14
 refine mv 1 rfl (ne_ (sr (mv 1 rfl (wl_cmp rfl rfl rfl false (by decide) (by decide) (ne_ (cw_false rfl (cw_skip (eo_then (cw_seq (sr (pf g1 0 rfl (by kernel_rfl) (wl_load rfl rfl (load_cell cellInt (hb4.ext (e8.trans e13)) rfl) (by decide) (pf g1 1 rfl (by kernel_rfl) ?_)))))))))))))
 refine wl_load rfl rfl (load_cell cellInt (hb4.ext (e8.trans e13)) rfl) (by decide) (wl_cmp rfl rfl rfl false (cb_ne_f (a:=n) (b:=n) rfl rfl (by omega)) (by decide) (ne_ (cw_false rfl (cw_skip (eo_then (sr (lo aggMat (hb4.ext (e8.trans e13)) [.int .i64 ((n:Nat):Int),.int .i64 ((n:Nat):Int),.slice Aa na capa] rfl rfl rfl ?_)))))))
 obtain⟨lb9,hlb9⟩:∃l,l=v12.heap.size:=⟨_,rfl⟩
 have hlow:w.heap.size≤lb9:=by rw [hlb9];exact hw3.size
 have hlo_g1:g1<lb9:=by rw [hlb9];exact ((hb4.ext (e8.trans e13))).lt
 have hlo_g6:g6<lb9:=by rw [hlb9];exact ((hb9.ext e13)).lt
 refine wl_call rfl rfl (vs:= [.agg #[.int .i64 ((n:Nat):Int),.int .i64 ((n:Nat):Int),.slice Aa na capa]]) (by kernel_rfl) (by decide) (g_brs_of (K:=1048576) ((show ZF w _ _ _ _ _ from⟨msa,hla,hma⟩).ext hw3) hn hna hX (by decide)) ?_
 rintro _ wof ⟨_,rfl,⟨gf,RA,NA,rcap,ncap,ra,rc,rfl,hA,hF0⟩,eof⟩
 refine ret_intro ?_
 rw [←hlb9] at hA hF0
 have hlb0:lb9≤wof.heap.size:=by rw [hlb9];exact eof.size
 have hw4:=hw3.trans eof
 refine mv 1 rfl (ne_ (cw_seq (sr (pf g1 1 rfl (by kernel_rfl) (wl_load rfl rfl (load_cell cellInt (hb4.ext (e8.trans (e13.trans eof))) rfl) (by decide) (mv 1 rfl (ne_ (cw_block ?_))))))))
 refine cw_loop (T:=World×Nat×List Nat×Mx×Bool×Int) (fun⟨wr,k,ps,Z,tu,z⟩=> [(0,.agg #[.int .i64 ((n:Nat):Int),.int .i64 ((n:Nat):Int),.slice Aa na capa]),(1,.pointer (some ⟨g1,0,none⟩)),(2,.pointer (some ⟨g6,0,none⟩)),(3,.int .i64 0),(4,.int .i64 0),(5,.pointer (some ⟨gf,0,none⟩)),(7,.agg #[.int .i64 ((n:Nat):Int),.int .i64 ((n:Nat):Int),.slice Aa na capa]),(8,.int .i64 0),(9,.int .i64 0),(10,.bool false),(13,.pointer (some ⟨g1,0,none⟩)),(14,.int .i64 ((n:Nat):Int)),(15,.pointer (some ⟨g1,1,none⟩)),(16,.int .i64 ((n:Nat):Int)),(17,.bool false),(19,.agg #[.int .i64 ((n:Nat):Int),.int .i64 ((n:Nat):Int),.slice Aa na capa]),(20,.pointer (some ⟨gf,0,none⟩)),(21,.pointer (some ⟨g1,1,none⟩)),(22,.int .i64 ((n:Nat):Int)),(23,.int .i64 ((k:Nat):Int))]) (fun⟨wr,k,ps,Z,tu,z⟩=>wr) (fun⟨wr,k,ps,Z,tu,z⟩=>(Ext w wr)∧(k≤n)∧(Bk wr g1 24 [.int .i64 ((n:Nat):Int),.int .i64 ((n:Nat):Int),.slice Aa na capa])∧(Bk wr g6 34 [F0,S0])∧(lb9≤wr.heap.size)∧(Fld lb9 n gf RA NA rcap ncap ra rc ps Z tu z k wr)∧(Inv n X k ps Z tu z)) (fun⟨wr,k,ps,Z,tu,z⟩=>n-k)
  (⟨wof,0,(List.range n),X,false,1⟩:World×Nat×List Nat×Mx×Bool×Int) ⟨hw4,(by omega),(hb4.ext (e8.trans (e13.trans eof))),(hb9.ext (e13.trans eof)),hlb0,hF0,(Inv.start (fun _ _ _ _=>rfl))⟩ rfl ⟨rfl,rfl,rfl,rfl,rfl,rfl,rfl,rfl,rfl,rfl,rfl,rfl,rfl,rfl,rfl,rfl,rfl,rfl,rfl,rfl,trivial⟩ ?_
 rintro⟨wr,k,ps,Z,tu,z⟩ ⟨hw1,hi_k,b_g1,b_g6,hlbw,hF,hI⟩
 refine cw_re [(0,.agg #[.int .i64 ((n:Nat):Int),.int .i64 ((n:Nat):Int),.slice Aa na capa]),(1,.pointer (some ⟨g1,0,none⟩)),(2,.pointer (some ⟨g6,0,none⟩)),(3,.int .i64 0),(4,.int .i64 0),(5,.pointer (some ⟨gf,0,none⟩)),(7,.agg #[.int .i64 ((n:Nat):Int),.int .i64 ((n:Nat):Int),.slice Aa na capa]),(8,.int .i64 0),(9,.int .i64 0),(10,.bool false),(13,.pointer (some ⟨g1,0,none⟩)),(14,.int .i64 ((n:Nat):Int)),(15,.pointer (some ⟨g1,1,none⟩)),(16,.int .i64 ((n:Nat):Int)),(17,.bool false),(19,.agg #[.int .i64 ((n:Nat):Int),.int .i64 ((n:Nat):Int),.slice Aa na capa]),(20,.pointer (some ⟨gf,0,none⟩)),(21,.pointer (some ⟨g1,1,none⟩)),(22,.int .i64 ((n:Nat):Int)),(23,.int .i64 ((k:Nat):Int))] wr rfl ⟨rfl,rfl,rfl,rfl,rfl,rfl,rfl,rfl,rfl,rfl,rfl,rfl,rfl,rfl,rfl,rfl,rfl,rfl,rfl,rfl,trivial⟩ (cw_seq ?_)
 by_cases hkn:k<n
 · 
  refine cw_region (wl_cmp rfl rfl rfl true (cb_lt_t (a:=k) (b:=n) rfl rfl (by omega)) (by decide) (ne_ (cw_seq (cw_true rfl (cw_skip (eo_then (cw_seq (cw_block (sr (mv 2 rfl (ne_ (sr (mv 1 rfl ?_)))))))))))))
  refine mv 1 rfl ?_
  obtain⟨sl9,Al9,nl9,cl9,ns9,hB9,hz9,hR9,hN9,hC9⟩:=hF
  refine wl_call rfl rfl (vs:= [.pointer (some ⟨gf,0,none⟩),.int .i64 ((k:Nat):Int)]) (by kernel_rfl) (by decide) (g_brs_stepI hlbw hA hB9 hz9 hR9 hN9 hC9 hn hXl hkn hI) ?_
  rintro e wst ⟨hbl,hc⟩
  rcases hc with⟨rfl,hz0⟩ | ⟨ps2,Z2,tu2,z2,rfl,hF2,hI2⟩
  · 
   refine ret_intro ?_
   have hw2:=hbl.toExt hw1 hlow
   refine pu (v:= .bool true) rfl (by kernel_rfl) (ne_ (cw_true rfl (sr (pu (v:= .agg #[F0,S0]) rfl (by kernel_rfl) ?_))))
   have hb16:=(b_g6.bl hbl hlo_g6)
   refine so aggInt hb16 [F0,S0] hw2 ge10 rfl rfl rfl rfl fun v15 hb17 u18 hw3=>(mv 1 rfl (ne_ (cw_ret (eo_block_ret (eo_thenR (eo_loopR (eo_block_ret (eo_thenR (eo_ret [.agg #[F0,S0],I0] rfl ⟨⟨_,rfl,load_agg aggInt hb17 [F0,S0] rfl (bq rfl) rfl⟩,rfl,trivial⟩ ?_)))))))))
   exact⟨_,rfl,⟨_,_,rfl,⟨_,_,_,_,rfl,(((Zr.zero (w:=v15) (base:=w.heap.size))).cast (hI.none hkn hz0).symm).mono hb⟩,rfl⟩,hw3⟩
  · 
   refine ret_intro ?_
   have hw2:=hbl.toExt hw1 hlow
   refine pu (v:= .bool false) rfl (by kernel_rfl) (ne_ (cw_false rfl (cw_skip (eo_block_normal (eo_then (cw_region (wl_ar rfl rfl rfl ((k+1:Nat):Int) (ai_add (a:=k) (b:=1) rfl rfl (by omega)) (by decide) (mv 1 rfl (wl_nil (eo_round (⟨wst,k+1,ps2,Z2,tu2,z2⟩:World×Nat×List Nat×Mx×Bool×Int) ⟨hw2,(by omega),(b_g1.bl hbl hlo_g1),(b_g6.bl hbl hlo_g6),(Nat.le_trans hlbw hbl.size),hF2,hI2⟩ (show n-(k+1)<n-k by omega) rfl ⟨rfl,rfl,rfl,rfl,rfl,rfl,rfl,rfl,rfl,rfl,rfl,rfl,rfl,rfl,rfl,rfl,rfl,rfl,rfl,rfl,trivial⟩))))))))))
 · 
  refine cw_region (wl_cmp rfl rfl rfl false (cb_lt_f (a:=k) (b:=n) rfl rfl (by omega)) (by decide) (ne_ (cw_seq (cw_false rfl (cw_exit (eo_thenX (eo_loopX (eo_block_here (eo_then (cw_seq (cw_seq ?_)))))))))))
  have hI9:Inv n X n ps Z tu z:=(show k=n by omega)▸hI
  have hdt:=hI9.full
  have hLz:ln z≤17179869184:=by rw [hI9.last];exact Nat.le_trans (ln_dt n _ fun a b ha hb=>pr_ln hI9.per hXl a b ha hb) (by have:=Nat.mul_le_mul (show n≤64 by omega) (show 1048576+n≤1048640 by omega);omega)
  obtain⟨sl9,Al9,nl9,cl9,ns9,hB9,hz9,hR9,hN9,hC9⟩:=hF
  have hgf:=hA.lg
  by_cases htu:tu=true
  · 
   subst htu
   refine cw_region (mv 1 rfl (pf gf 0 rfl (by kernel_rfl) (pf gf 2 rfl (by kernel_rfl) (wl_load rfl rfl (load_cell cellBool hB9 rfl) (by decide) (ne_ (cw_true rfl (sr (mv 1 rfl (pf gf 0 rfl (by kernel_rfl) (pf gf 3 rfl (by kernel_rfl) (lo aggInt hB9 [.bool sl9,.slice Al9 nl9 cl9] rfl rfl rfl ?_)))))))))))
   have L20:ln (-z)≤17179869184:=(by rw [ln_neg];exact hLz)
   refine cl (vs:= [.agg #[.bool sl9,.slice Al9 nl9 cl9]]) hw1 (g_zint_Neg hw1.size hz9.zi (hz9.le (lx_ hLz rfl))) rfl (by kernel_rfl) fun xr23 v21 r23 e22 hw2=>?_
   obtain⟨s24,A24,n24,c24,rfl,z24⟩:=r23
   have hb26:=(b_g6.ext e22)
   refine so aggInt hb26 [.bool s24,.slice A24 n24 c24] hw2 ge10 rfl rfl rfl rfl fun v25 hb27 u28 hw3=>(mv 1 rfl (ne_ (cw_ret (eo_thenR (eo_ret [.agg #[.bool s24,.slice A24 n24 c24],I0] rfl ⟨⟨_,rfl,load_agg aggInt hb27 [.bool s24,.slice A24 n24 c24] rfl (bq rfl) rfl⟩,rfl,trivial⟩ ?_)))))
   exact⟨_,rfl,⟨_,_,rfl,⟨_,_,_,_,rfl,(((z24.updT hb26 u28)).cast (by rw [hdt];rfl)).mono hb⟩,rfl⟩,hw3⟩
  · 
   obtain rfl:tu=false:=by simpa using htu
   refine cw_region (mv 1 rfl (pf gf 0 rfl (by kernel_rfl) (pf gf 2 rfl (by kernel_rfl) (wl_load rfl rfl (load_cell cellBool hB9 rfl) (by decide) (ne_ (cw_false rfl (cw_skip (eo_then (sr (mv 1 rfl (pf gf 0 rfl (by kernel_rfl) (pf gf 3 rfl (by kernel_rfl) (lo aggInt hB9 [.bool sl9,.slice Al9 nl9 cl9] rfl rfl rfl ?_)))))))))))))
   refine cl (vs:= [.agg #[.bool sl9,.slice Al9 nl9 cl9]]) hw1 (g_zint_Least hw1.size hz9.zi (hz9.le (lx_ hLz rfl))) rfl (by kernel_rfl) fun xr32 v30 r32 e31 hw2=>?_
   obtain⟨s33,A33,n33,c33,rfl,z33⟩:=r32
   have hb35:=(b_g6.ext e31)
   refine so aggInt hb35 [.bool s33,.slice A33 n33 c33] hw2 ge10 rfl rfl rfl rfl fun v34 hb36 u37 hw3=>(mv 1 rfl (ne_ (cw_ret (eo_ret [.agg #[.bool s33,.slice A33 n33 c33],I0] rfl ⟨⟨_,rfl,load_agg aggInt hb36 [.bool s33,.slice A33 n33 c33] rfl (bq rfl) rfl⟩,rfl,trivial⟩ ?_))))
   exact⟨_,rfl,⟨_,_,rfl,⟨_,_,_,_,rfl,(((z33.updT hb35 u37)).cast (by rw [hdt];rfl)).mono hb⟩,rfl⟩,hw3⟩
set_option maxHeartbeats 4000000 in
set_option maxRecDepth 20000 in
theorem g_brs_Det_bad {w:World}{b:Nat}(hb:b≤w.heap.size){R C:Int}{na capa:Nat}{Aa:Option Addr}(hs:¬Snd R C na):
    Calls Try.prog 15 #[.agg #[.int .i64 R,.int .i64 C,.slice Aa na capa]] w (Gv w (T2 (ZR b (0)) (Is (.int .i64 1)))):=by
 refine sx_enter Try.func15 rfl (n:=46) rfl (bq rfl) (args:= [.agg #[.int .i64 R,.int .i64 C,.slice Aa na capa]]) (cw_keep [(0,.agg #[.int .i64 R,.int .i64 C,.slice Aa na capa])] ⟨rfl,trivial⟩ (sr (bx [.int .i64 R,.int .i64 C,.slice Aa na capa] (Ext.refl w) rfl rfl rfl fun g1 v2 hb4 ge5 e3 hw1=>(alq [F0,S0] hw1 hb4.lt (fun _=>by kernel_rfl) rfl fun g6 v7 hb9 ge10 q11 e8 hw2=>(mv 1 rfl (ne_ (cw_seq (sr (lo aggMat (hb4.ext e8) [.int .i64 R,.int .i64 C,.slice Aa na capa] rfl rfl rfl (cl (vs:= [.agg #[.int .i64 R,.int .i64 C,.slice Aa na capa]]) hw2 (g_mat_Check_no hs) rfl (by kernel_rfl) fun xr14 v12 r14 e13 hw3=>?_))))))))))
 obtain rfl:=r14
 refine mv 1 rfl (ne_ (sr (mv 1 rfl (wl_cmp rfl rfl rfl true (by decide) (by decide) (ne_ (cw_true rfl (sr (pu (v:= .agg #[F0,S0]) rfl (by kernel_rfl) (mv 1 rfl ?_)))))))))
 have hb16:=(hb9.ext e13)
 refine so aggInt hb16 [F0,S0] hw3 ge10 rfl rfl rfl rfl fun v15 hb17 u18 hw4=>(mv 1 rfl (ne_ (cw_ret (eo_thenR (eo_ret [.agg #[F0,S0],.int .i64 1] rfl ⟨⟨_,rfl,load_agg aggInt hb17 [F0,S0] rfl (bq rfl) rfl⟩,rfl,trivial⟩ ?_)))))
 exact⟨_,rfl,⟨_,_,rfl,⟨_,_,_,_,rfl,(Zr.zero (w:=v15) (base:=w.heap.size)).mono hb⟩,rfl⟩,hw4⟩
set_option maxHeartbeats 4000000 in
set_option maxRecDepth 20000 in
theorem g_brs_Det_unfit {w:World}{b:Nat}(hb:b≤w.heap.size){R C:Int}{na capa:Nat}{Aa:Option Addr}(hs:Snd R C na) (hRC:R≠C):
    Calls Try.prog 15 #[.agg #[.int .i64 R,.int .i64 C,.slice Aa na capa]] w (Gv w (T2 (ZR b (0)) (Is (.int .i64 2)))):=by
 refine sx_enter Try.func15 rfl (n:=46) rfl (bq rfl) (args:= [.agg #[.int .i64 R,.int .i64 C,.slice Aa na capa]]) (cw_keep [(0,.agg #[.int .i64 R,.int .i64 C,.slice Aa na capa])] ⟨rfl,trivial⟩ (sr (bx [.int .i64 R,.int .i64 C,.slice Aa na capa] (Ext.refl w) rfl rfl rfl fun g1 v2 hb4 ge5 e3 hw1=>(alq [F0,S0] hw1 hb4.lt (fun _=>by kernel_rfl) rfl fun g6 v7 hb9 ge10 q11 e8 hw2=>(mv 1 rfl (ne_ (cw_seq (sr (lo aggMat (hb4.ext e8) [.int .i64 R,.int .i64 C,.slice Aa na capa] rfl rfl rfl (cl (vs:= [.agg #[.int .i64 R,.int .i64 C,.slice Aa na capa]]) hw2 (g_mat_Check_yes hs) rfl (by kernel_rfl) fun xr14 v12 r14 e13 hw3=>?_))))))))))
 obtain rfl:=r14
 refine mv 1 rfl (ne_ (sr (mv 1 rfl (wl_cmp rfl rfl rfl false (by decide) (by decide) (ne_ (cw_false rfl (cw_skip (eo_then (cw_seq (sr (pf g1 0 rfl (by kernel_rfl) (wl_load rfl rfl (load_cell cellInt (hb4.ext (e8.trans e13)) rfl) (by decide) (pf g1 1 rfl (by kernel_rfl) ?_)))))))))))))
 refine wl_load rfl rfl (load_cell cellInt (hb4.ext (e8.trans e13)) rfl) (by decide) (wl_cmp rfl rfl rfl true (ci_ne_t hRC) (by decide) (ne_ (cw_true rfl (sr (pu (v:= .agg #[F0,S0]) rfl (by kernel_rfl) ?_)))))
 have hb16:=(hb9.ext e13)
 refine so aggInt hb16 [F0,S0] hw3 ge10 rfl rfl rfl rfl fun v15 hb17 u18 hw4=>(mv 1 rfl (ne_ (cw_ret (eo_thenR (eo_ret [.agg #[F0,S0],.int .i64 2] rfl ⟨⟨_,rfl,load_agg aggInt hb17 [F0,S0] rfl (bq rfl) rfl⟩,rfl,trivial⟩ ?_)))))
 exact⟨_,rfl,⟨_,_,rfl,⟨_,_,_,_,rfl,(Zr.zero (w:=v15) (base:=w.heap.size)).mono hb⟩,rfl⟩,hw4⟩
theorem dt_22:dt 2 (fun i j=>([2,4,6,8]:List Int).getD (i*2+j) 0)= -((8:Nat):Int):=by decide
set_option maxHeartbeats 4000000 in
set_option maxRecDepth 20000 in
theorem g_top_detWakes {w:World}:
    Calls Try.prog 6 #[] w (Gv w (Is (.bool true))):=by
 have hlb:w.heap.size≤w.heap.size:=Nat.le_refl _
 refine sx_enter Try.func6 rfl (n:=15) rfl (bq rfl) (args:= []) (cw_keep [] trivial (sr (mv 1 rfl (ne_ (sr (cl (vs:= []) (Ext.refl w) (g_top_two (Ext.refl w).size hlb) rfl (by kernel_rfl) fun xr3 v1 r3 e2 hw1=>?_))))))
 obtain⟨lv4,rfl,⟨LA5,lc5,rfl,lz5⟩⟩:=r3
 have blk6:=lz5.block
 refine cl (vs:= [.agg #[.int .i64 2,.int .i64 2,.slice LA5 4 lc5]]) hw1 ((g_brs_Det (n:=2) (X:=(fun i j=>([2,4,6,8]:List Int).getD (i*2+j) 0)) hw1.size ((lz5.zf0).mono (by decide)) rfl (by decide) (fun i j _ _=>rfl)).mono (Gv.imp (T2.imp (fun _ _ h=>ZR.cast h dt_22) Is.imp))) rfl (by kernel_rfl) fun xr9 v7 r9 e8 hw2=>?_
 obtain⟨_,_,rfl,⟨s11,A11,n11,c11,rfl,z11⟩,rfl⟩:=r9
 refine mv 1 rfl (pu (v:= .agg #[.bool s11,.slice A11 n11 c11]) rfl (by kernel_rfl) (pu (v:= .int .i64 0) rfl (by kernel_rfl) (wl_alloc rfl (z:= .agg #[F0,S0]) (vs:= [F0,S0]) (fun _=>by kernel_rfl) rfl (by decide) fun g12 v13 nb=>?_)))
 have hb15:=nb.bk
 have ge16:w.heap.size≤g12:=by rw [←nb.at_];exact hw2.size
 have ne17:∀p:Addr,LA5=some p→p.block≠g12:=fun p hp=>by have:=((lz5.ext e8)).block p hp;have:=nb.at_;omega
 have e14:=nb.ext
 clear nb
 have hw3:=hw2.trans e14
 refine so aggInt hb15 [.bool s11,.slice A11 n11 c11] hw3 ge16 rfl rfl rfl rfl fun v18 hb20 u21 hw4=>(mv 1 rfl (ne_ (cw_seq ?_)))
 refine cw_draw mix 7 [] [Is (.int .i64 0),Is (.bool true),Is (.bool true),Is (.agg #[.bool s11,.slice A11 n11 c11]),ZR w.heap.size (-((8:Nat):Int)),Is (.bool true),Is (.bool true)] [[],[0],[1],[2],[2],[2,3,4],[2,5]] [[],[0],[0,1],[0,1,2],[0,1,2],[0,1,2,3,4],[0,1,2,3,4,5],[0,1,2,3,4,5,6]] rfl
  (obs_cons rfl rfl (hob rfl rfl ?_) (obs_cons rfl rfl (hob rfl rfl ?_) (obs_cons rfl rfl (hob rfl rfl ?_) (obs_cons rfl rfl (hob rfl rfl ?_) (obs_cons rfl rfl (hob rfl rfl ?_) (obs_cons rfl rfl (hob rfl rfl ?_) (obs_cons rfl rfl (hob rfl rfl ?_) obs_nil))))))) ?_
 · 
  exact fun _ _=>deps_nil (mv 1 rfl (pi_done rfl (Ext.refl _) rfl))
 · 
  exact fun _ _=>dk rfl rfl (deps_nil (wl_cmp rfl rfl rfl true (by decide) (by decide) (pi_done rfl (Ext.refl _) rfl)))
 · 
  exact fun _ _=>dk rfl rfl (deps_nil (mv 1 rfl (pi_done rfl (Ext.refl _) rfl)))
 · 
  exact fun _ e41=>dk rfl rfl (deps_nil (lo aggInt (hb20.ext e41) [.bool s11,.slice A11 n11 c11] rfl rfl rfl (pi_done rfl (Ext.refl _) rfl)))
 · 
  intro v47 e48
  have hw5:=hw4.trans e48
  refine dk rfl rfl (deps_nil (cl (vs:= [.int .u64 8]) hw5 ((g_top_minus (x:=8) hw5.size (by decide) (by decide))) rfl (by kernel_rfl) fun xr56 v54 r56 e55 hw6=>?_))
  obtain⟨s57,A57,n57,c57,rfl,z57⟩:=r56
  exact pi_done rfl e55 ⟨_,_,_,_,rfl,z57⟩
 · 
  intro v58 e59
  have hw5:=hw4.trans e59
  refine dk rfl rfl (dk rfl rfl (deps_cons rfl rfl fun x70 y71 h72 e73 f74=>?_))
  obtain⟨s75,A75,n75,c75,rfl,z75⟩:=h72
  have z75:=z75.ext f74
  refine deps_nil (cl (vs:= [.agg #[.bool s11,.slice A11 n11 c11],.agg #[.bool s75,.slice A75 n75 c75]]) hw5 (g_top_sameInt (((z11.ext e14).updT hb15 u21).ext e59) z75) rfl (by kernel_rfl) fun xr78 v76 r78 e77 hw6=>?_)
  obtain rfl:=r78
  exact pi_done rfl e77 rfl
 · 
  exact fun _ _=>dk rfl rfl (dk rfl rfl (deps_nil (pu (v:= .bool true) rfl (by kernel_rfl) (pi_done rfl (Ext.refl _) rfl))))
 · 
  intro v91 e92
  have hw5:=hw4.trans e92
  refine dk rfl rfl (dk rfl rfl (dk rfl rfl (dk rfl rfl (deps_cons rfl rfl fun x113 y114 h115 e116 f117=>?_))))
  obtain⟨s118,A118,n118,c118,rfl,z118⟩:=h115
  have z118:=z118.ext f117
  refine dk rfl rfl (dk rfl rfl (deps_nil (mv 1 rfl (wl_nil (eo_np (eo_then (cw_ret (eo_ret [.bool true] rfl ⟨rfl,trivial⟩ ?_))))))))
  exact⟨_,rfl,rfl,hw5⟩
set_option maxHeartbeats 4000000 in
theorem g_stp_in {w:World}{i:Int}{n:Nat}:
    Calls Try.prog 123 #[.int .i64 i,.int .i64 ((n:Nat):Int)] w (Gv w (Is (.bool (decide (insd n i))))):=by
 refine sx_enter Try.func123 rfl (n:=12) rfl (bq rfl) (args:= [.int .i64 i,.int .i64 ((n:Nat):Int)]) (cw_keep [(0,.int .i64 i),(1,.int .i64 ((n:Nat):Int))] ⟨rfl,rfl,trivial⟩ (sr (mv 1 rfl (ne_ (cw_seq ?_)))))
 by_cases h0:0≤i
 · 
  by_cases h1:i<((n:Nat):Int)
  · 
   refine cw_region (mv 1 rfl (wl_cmp rfl rfl rfl true (ci_ge_t h0) (by decide) (mv 3 rfl (wl_cmp rfl rfl rfl true (ci_lt_t h1) (by decide) (pu (v:= .bool true) rfl (by kernel_rfl) (mv 1 rfl (ne_ (cw_ret (eo_ret [.bool true] rfl ⟨rfl,trivial⟩ ?_)))))))))
   exact⟨_,rfl,(congrArg Value.bool (decide_eq_true (p:=insd n i) ⟨h0,h1⟩).symm),(Ext.refl w)⟩
  · 
   refine cw_region (mv 1 rfl (wl_cmp rfl rfl rfl true (ci_ge_t h0) (by decide) (mv 3 rfl (wl_cmp rfl rfl rfl false (ci_lt_f h1) (by decide) (pu (v:= .bool false) rfl (by kernel_rfl) (mv 1 rfl (ne_ (cw_ret (eo_ret [F0] rfl ⟨rfl,trivial⟩ ?_)))))))))
   exact⟨_,rfl,(congrArg Value.bool (decide_eq_false (p:=insd n i) (fun h=>by simp only [insd] at h;omega)).symm),(Ext.refl w)⟩
 · 
  refine cw_region (mv 1 rfl (wl_cmp rfl rfl rfl false (ci_ge_f h0) (by decide) (mv 4 rfl (pu (v:= .bool false) rfl (by kernel_rfl) (mv 1 rfl (ne_ (cw_ret (eo_ret [F0] rfl ⟨rfl,trivial⟩ ?_))))))))
  exact⟨_,rfl,(congrArg Value.bool (decide_eq_false (p:=insd n i) (fun h=>by simp only [insd] at h;omega)).symm),(Ext.refl w)⟩
set_option maxHeartbeats 4000000 in
theorem g_stp_fits_swap {w:World}{i j:Int}{n:Nat}:
    Calls Try.prog 120 #[.agg #[.int .i64 i,.int .i64 j],.int .i64 ((n:Nat):Int)] w (Gv w (Is (.bool (decide (insd n i∧insd n j))))):=by
 refine sx_enter Try.func120 rfl (n:=15) rfl (bq rfl) (args:= [.agg #[.int .i64 i,.int .i64 j],.int .i64 ((n:Nat):Int)]) (cw_keep [(0,.agg #[.int .i64 i,.int .i64 j]),(1,.int .i64 ((n:Nat):Int))] ⟨rfl,rfl,trivial⟩ (sr (bx [.int .i64 i,.int .i64 j] (Ext.refl w) rfl rfl rfl fun g1 v2 hb4 ge5 e3 hw1=>(mv 1 rfl (ne_ (cw_seq ?_))))))
 by_cases hi:insd n i
 · 
  by_cases hj:insd n j
  · 
   refine cw_region (pf g1 0 rfl (by kernel_rfl) (wl_load rfl rfl (load_cell cellInt hb4 rfl) (by decide) (mv 1 rfl (cl (vs:= [.int .i64 i,.int .i64 ((n:Nat):Int)]) hw1 (g_stp_in.mono (Gv.imp (fun _ _ h9=>h9.trans (congrArg Value.bool (decide_eq_true hi))))) rfl (by kernel_rfl) fun xr8 v6 r8 e7 hw2=>?_))))
   obtain rfl:=r8
   refine mv 1 rfl (pf g1 1 rfl (by kernel_rfl) (wl_load rfl rfl (load_cell cellInt (hb4.ext e7) rfl) (by decide) (mv 1 rfl (cl (vs:= [.int .i64 j,.int .i64 ((n:Nat):Int)]) hw2 (g_stp_in.mono (Gv.imp (fun _ _ h9=>h9.trans (congrArg Value.bool (decide_eq_true hj))))) rfl (by kernel_rfl) fun xr11 v9 r11 e10 hw3=>?_))))
   obtain rfl:=r11
   refine pu (v:= .bool true) rfl (by kernel_rfl) (mv 1 rfl (ne_ (cw_ret (eo_ret [.bool true] rfl ⟨rfl,trivial⟩ ?_))))
   exact⟨_,rfl,(congrArg Value.bool (decide_eq_true (p:=insd n i∧insd n j) ⟨hi,hj⟩).symm),hw3⟩
  · 
   refine cw_region (pf g1 0 rfl (by kernel_rfl) (wl_load rfl rfl (load_cell cellInt hb4 rfl) (by decide) (mv 1 rfl (cl (vs:= [.int .i64 i,.int .i64 ((n:Nat):Int)]) hw1 (g_stp_in.mono (Gv.imp (fun _ _ h9=>h9.trans (congrArg Value.bool (decide_eq_true hi))))) rfl (by kernel_rfl) fun xr14 v12 r14 e13 hw2=>?_))))
   obtain rfl:=r14
   refine mv 1 rfl (pf g1 1 rfl (by kernel_rfl) (wl_load rfl rfl (load_cell cellInt (hb4.ext e13) rfl) (by decide) (mv 1 rfl (cl (vs:= [.int .i64 j,.int .i64 ((n:Nat):Int)]) hw2 (g_stp_in.mono (Gv.imp (fun _ _ h9=>h9.trans (congrArg Value.bool (decide_eq_false hj))))) rfl (by kernel_rfl) fun xr17 v15 r17 e16 hw3=>?_))))
   obtain rfl:=r17
   refine pu (v:= .bool false) rfl (by kernel_rfl) (mv 1 rfl (ne_ (cw_ret (eo_ret [F0] rfl ⟨rfl,trivial⟩ ?_))))
   exact⟨_,rfl,(congrArg Value.bool (decide_eq_false (p:=insd n i∧insd n j) (fun h=>by obtain⟨h1,h2⟩:=h;contradiction)).symm),hw3⟩
 · 
  refine cw_region (pf g1 0 rfl (by kernel_rfl) (wl_load rfl rfl (load_cell cellInt hb4 rfl) (by decide) (mv 1 rfl (cl (vs:= [.int .i64 i,.int .i64 ((n:Nat):Int)]) hw1 (g_stp_in.mono (Gv.imp (fun _ _ h9=>h9.trans (congrArg Value.bool (decide_eq_false hi))))) rfl (by kernel_rfl) fun xr20 v18 r20 e19 hw2=>?_))))
  obtain rfl:=r20
  refine mv 5 rfl (pu (v:= .bool false) rfl (by kernel_rfl) (mv 1 rfl (ne_ (cw_ret (eo_ret [F0] rfl ⟨rfl,trivial⟩ ?_)))))
  exact⟨_,rfl,(congrArg Value.bool (decide_eq_false (p:=insd n i∧insd n j) (fun h=>by obtain⟨h1,h2⟩:=h;contradiction)).symm),hw2⟩
set_option maxHeartbeats 4000000 in
theorem g_stp_fits_negate {w:World}{i:Int}{n:Nat}:
    Calls Try.prog 124 #[.agg #[.int .i64 i],.int .i64 ((n:Nat):Int)] w (Gv w (Is (.bool (decide (insd n i))))):=by
 refine sx_enter Try.func124 rfl (n:=9) rfl (bq rfl) (args:= [.agg #[.int .i64 i],.int .i64 ((n:Nat):Int)]) (cw_keep [(0,.agg #[.int .i64 i]),(1,.int .i64 ((n:Nat):Int))] ⟨rfl,rfl,trivial⟩ (sr (bx [.int .i64 i] (Ext.refl w) rfl rfl rfl fun g1 v2 hb4 ge5 e3 hw1=>(mv 1 rfl (ne_ (cw_seq ?_))))))
 by_cases hi:insd n i
 · 
  refine cw_region (pf g1 0 rfl (by kernel_rfl) (wl_load rfl rfl (load_cell cellInt hb4 rfl) (by decide) (mv 1 rfl (cl (vs:= [.int .i64 i,.int .i64 ((n:Nat):Int)]) hw1 (g_stp_in.mono (Gv.imp (fun _ _ h9=>h9.trans (congrArg Value.bool (decide_eq_true hi))))) rfl (by kernel_rfl) fun xr8 v6 r8 e7 hw2=>?_))))
  obtain rfl:=r8
  refine mv 1 rfl (ne_ (cw_ret (eo_ret [.bool true] rfl ⟨rfl,trivial⟩ ?_)))
  exact⟨_,rfl,(congrArg Value.bool (decide_eq_true (p:=insd n i) hi).symm),hw2⟩
 · 
  refine cw_region (pf g1 0 rfl (by kernel_rfl) (wl_load rfl rfl (load_cell cellInt hb4 rfl) (by decide) (mv 1 rfl (cl (vs:= [.int .i64 i,.int .i64 ((n:Nat):Int)]) hw1 (g_stp_in.mono (Gv.imp (fun _ _ h9=>h9.trans (congrArg Value.bool (decide_eq_false hi))))) rfl (by kernel_rfl) fun xr11 v9 r11 e10 hw2=>?_))))
  obtain rfl:=r11
  refine mv 1 rfl (ne_ (cw_ret (eo_ret [F0] rfl ⟨rfl,trivial⟩ ?_)))
  exact⟨_,rfl,(congrArg Value.bool (decide_eq_false (p:=insd n i) hi).symm),hw2⟩
set_option maxHeartbeats 4000000 in
theorem g_stp_fits_add {w:World}{i j:Int}{n:Nat}{sf:Bool}{Af:Option Addr}{nf cf:Nat}:
    Calls Try.prog 127 #[.agg #[.int .i64 i,.int .i64 j,.bool sf,.slice Af nf cf],.int .i64 ((n:Nat):Int)] w (Gv w (Is (.bool (decide (insd n i∧insd n j∧i≠j))))):=by
 refine sx_enter Try.func127 rfl (n:=22) rfl (bq rfl) (args:= [.agg #[.int .i64 i,.int .i64 j,.bool sf,.slice Af nf cf],.int .i64 ((n:Nat):Int)]) (cw_keep [(0,.agg #[.int .i64 i,.int .i64 j,.bool sf,.slice Af nf cf]),(1,.int .i64 ((n:Nat):Int))] ⟨rfl,rfl,trivial⟩ (sr (bx [.int .i64 i,.int .i64 j,.bool sf,.slice Af nf cf] (Ext.refl w) rfl rfl rfl fun g1 v2 hb4 ge5 e3 hw1=>(mv 1 rfl (ne_ (cw_seq ?_))))))
 by_cases hi:insd n i
 · 
  by_cases hj:insd n j
  · 
   by_cases hij:i≠j
   · 
    refine cw_region (pf g1 0 rfl (by kernel_rfl) (wl_load rfl rfl (load_cell cellInt hb4 rfl) (by decide) (mv 1 rfl (cl (vs:= [.int .i64 i,.int .i64 ((n:Nat):Int)]) hw1 (g_stp_in.mono (Gv.imp (fun _ _ h9=>h9.trans (congrArg Value.bool (decide_eq_true hi))))) rfl (by kernel_rfl) fun xr8 v6 r8 e7 hw2=>?_))))
    obtain rfl:=r8
    refine mv 1 rfl (pf g1 1 rfl (by kernel_rfl) (wl_load rfl rfl (load_cell cellInt (hb4.ext e7) rfl) (by decide) (mv 1 rfl (cl (vs:= [.int .i64 j,.int .i64 ((n:Nat):Int)]) hw2 (g_stp_in.mono (Gv.imp (fun _ _ h9=>h9.trans (congrArg Value.bool (decide_eq_true hj))))) rfl (by kernel_rfl) fun xr11 v9 r11 e10 hw3=>?_))))
    obtain rfl:=r11
    refine pu (v:= .bool true) rfl (by kernel_rfl) (mv 1 rfl (pf g1 0 rfl (by kernel_rfl) (wl_load rfl rfl (load_cell cellInt (hb4.ext (e7.trans e10)) rfl) (by decide) (pf g1 1 rfl (by kernel_rfl) (wl_load rfl rfl (load_cell cellInt (hb4.ext (e7.trans e10)) rfl) (by decide) (wl_cmp rfl rfl rfl true (ci_ne_t hij) (by decide) (pu (v:= .bool true) rfl (by kernel_rfl) (mv 1 rfl (ne_ (cw_ret (eo_ret [.bool true] rfl ⟨rfl,trivial⟩ ?_)))))))))))
    exact⟨_,rfl,(congrArg Value.bool (decide_eq_true (p:=insd n i∧insd n j∧i≠j) ⟨hi,hj,hij⟩).symm),hw3⟩
   · 
    refine cw_region (pf g1 0 rfl (by kernel_rfl) (wl_load rfl rfl (load_cell cellInt hb4 rfl) (by decide) (mv 1 rfl (cl (vs:= [.int .i64 i,.int .i64 ((n:Nat):Int)]) hw1 (g_stp_in.mono (Gv.imp (fun _ _ h9=>h9.trans (congrArg Value.bool (decide_eq_true hi))))) rfl (by kernel_rfl) fun xr14 v12 r14 e13 hw2=>?_))))
    obtain rfl:=r14
    refine mv 1 rfl (pf g1 1 rfl (by kernel_rfl) (wl_load rfl rfl (load_cell cellInt (hb4.ext e13) rfl) (by decide) (mv 1 rfl (cl (vs:= [.int .i64 j,.int .i64 ((n:Nat):Int)]) hw2 (g_stp_in.mono (Gv.imp (fun _ _ h9=>h9.trans (congrArg Value.bool (decide_eq_true hj))))) rfl (by kernel_rfl) fun xr17 v15 r17 e16 hw3=>?_))))
    obtain rfl:=r17
    refine pu (v:= .bool true) rfl (by kernel_rfl) (mv 1 rfl (pf g1 0 rfl (by kernel_rfl) (wl_load rfl rfl (load_cell cellInt (hb4.ext (e13.trans e16)) rfl) (by decide) (pf g1 1 rfl (by kernel_rfl) (wl_load rfl rfl (load_cell cellInt (hb4.ext (e13.trans e16)) rfl) (by decide) (wl_cmp rfl rfl rfl false (ci_ne_f (Decidable.not_not.1 hij)) (by decide) (pu (v:= .bool false) rfl (by kernel_rfl) (mv 1 rfl (ne_ (cw_ret (eo_ret [F0] rfl ⟨rfl,trivial⟩ ?_)))))))))))
    exact⟨_,rfl,(congrArg Value.bool (decide_eq_false (p:=insd n i∧insd n j∧i≠j) (fun h=>by obtain⟨h1,h2,h3⟩:=h;contradiction)).symm),hw3⟩
  · 
   refine cw_region (pf g1 0 rfl (by kernel_rfl) (wl_load rfl rfl (load_cell cellInt hb4 rfl) (by decide) (mv 1 rfl (cl (vs:= [.int .i64 i,.int .i64 ((n:Nat):Int)]) hw1 (g_stp_in.mono (Gv.imp (fun _ _ h9=>h9.trans (congrArg Value.bool (decide_eq_true hi))))) rfl (by kernel_rfl) fun xr20 v18 r20 e19 hw2=>?_))))
   obtain rfl:=r20
   refine mv 1 rfl (pf g1 1 rfl (by kernel_rfl) (wl_load rfl rfl (load_cell cellInt (hb4.ext e19) rfl) (by decide) (mv 1 rfl (cl (vs:= [.int .i64 j,.int .i64 ((n:Nat):Int)]) hw2 (g_stp_in.mono (Gv.imp (fun _ _ h9=>h9.trans (congrArg Value.bool (decide_eq_false hj))))) rfl (by kernel_rfl) fun xr23 v21 r23 e22 hw3=>?_))))
   obtain rfl:=r23
   refine pu (v:= .bool false) rfl (by kernel_rfl) (mv 6 rfl (pu (v:= .bool false) rfl (by kernel_rfl) (mv 1 rfl (ne_ (cw_ret (eo_ret [F0] rfl ⟨rfl,trivial⟩ ?_))))))
   exact⟨_,rfl,(congrArg Value.bool (decide_eq_false (p:=insd n i∧insd n j∧i≠j) (fun h=>by obtain⟨h1,h2,h3⟩:=h;contradiction)).symm),hw3⟩
 · 
  refine cw_region (pf g1 0 rfl (by kernel_rfl) (wl_load rfl rfl (load_cell cellInt hb4 rfl) (by decide) (mv 1 rfl (cl (vs:= [.int .i64 i,.int .i64 ((n:Nat):Int)]) hw1 (g_stp_in.mono (Gv.imp (fun _ _ h9=>h9.trans (congrArg Value.bool (decide_eq_false hi))))) rfl (by kernel_rfl) fun xr26 v24 r26 e25 hw2=>?_))))
  obtain rfl:=r26
  refine mv 5 rfl (pu (v:= .bool false) rfl (by kernel_rfl) (mv 6 rfl (pu (v:= .bool false) rfl (by kernel_rfl) (mv 1 rfl (ne_ (cw_ret (eo_ret [F0] rfl ⟨rfl,trivial⟩ ?_)))))))
  exact⟨_,rfl,(congrArg Value.bool (decide_eq_false (p:=insd n i∧insd n j∧i≠j) (fun h=>by obtain⟨h1,h2,h3⟩:=h;contradiction)).symm),hw2⟩
set_option maxHeartbeats 4000000 in
theorem g_stp_fits_alien {w:World}{n:Nat}:
    Calls Try.prog 130 #[.agg #[],.int .i64 ((n:Nat):Int)] w (Gv w (Is (.bool (decide (False))))):=by
 refine sx_enter Try.func130 rfl (n:=5) rfl (bq rfl) (args:= [.agg #[],.int .i64 ((n:Nat):Int)]) (cw_keep [(0,.agg #[]),(1,.int .i64 ((n:Nat):Int))] ⟨rfl,rfl,trivial⟩ (sr (bx [] (Ext.refl w) rfl rfl rfl fun g1 v2 hb4 ge5 e3 hw1=>(mv 1 rfl (ne_ (sr (mv 1 rfl (ne_ (cw_ret (eo_ret [F0] rfl ⟨rfl,trivial⟩ ?_))))))))))
 exact⟨_,rfl,(congrArg Value.bool (decide_eq_false (p:=False) (fun h=>h)).symm),hw1⟩
set_option maxHeartbeats 4000000 in
theorem g_stp_readI {w:World}{k i j:Int}{sf:Bool}{Af:Option Addr}{nf cf:Nat}{f:Int}(hf:Zi w sf Af nf cf f) (lf:nf≤1048576):
    Calls Try.prog 51 #[.agg #[.int .i64 k,.int .i64 i,.int .i64 j,.bool sf,.slice Af nf cf]] w (Gv w (Mv w.heap.size ⟨k,i,j,f⟩)):=by
 have Lf:ln f≤1048576:=Nat.le_trans hf.ln lf
 refine sx_enter Try.func51 rfl (n:=32) rfl (bq rfl) (args:= [.agg #[.int .i64 k,.int .i64 i,.int .i64 j,.bool sf,.slice Af nf cf]]) (cw_keep [(0,.agg #[.int .i64 k,.int .i64 i,.int .i64 j,.bool sf,.slice Af nf cf])] ⟨rfl,trivial⟩ (sr (bx [.int .i64 k,.int .i64 i,.int .i64 j,.bool sf,.slice Af nf cf] (Ext.refl w) rfl rfl rfl fun g1 v2 hb4 ge5 e3 hw1=>(mv 1 rfl (ne_ (cw_seq (sr (pf g1 0 rfl (by kernel_rfl) (wl_load rfl rfl (load_cell cellInt hb4 rfl) (by decide) (ne_ (cw_block (cw_seq ?_))))))))))))
 by_cases hk1:k=1
 · 
  refine cw_region (wl_cmp rfl rfl rfl true (ci_eq_t hk1) (by decide) (mv 1 rfl (ne_ (cw_true rfl (sr (pf g1 1 rfl (by kernel_rfl) (wl_load rfl rfl (load_cell cellInt hb4 rfl) (by decide) (pf g1 2 rfl (by kernel_rfl) (wl_load rfl rfl (load_cell cellInt hb4 rfl) (by decide) (pu (v:= .agg #[.int .i64 i,.int .i64 j]) rfl (by kernel_rfl) (pu (v:= .iface 105 (.agg #[.int .i64 i,.int .i64 j])) rfl (by kernel_rfl) (mv 1 rfl (wl_nil ?_)))))))))))))
  refine eo_then (cw_ret (eo_block_ret (eo_thenR (eo_ret [.iface 105 (.agg #[.int .i64 i,.int .i64 j])] rfl ⟨rfl,trivial⟩ ?_))))
  exact⟨_,rfl,Or.inl ⟨hk1,rfl⟩,hw1⟩
 · 
  refine cw_region (wl_cmp rfl rfl rfl false (ci_eq_f hk1) (by decide) (mv 1 rfl (ne_ (cw_false rfl (cw_seq ?_)))))
  by_cases hk2:k=2
  · 
   refine cw_region (wl_cmp rfl rfl rfl true (ci_eq_t hk2) (by decide) (mv 1 rfl (ne_ (cw_true rfl (sr (pf g1 1 rfl (by kernel_rfl) (wl_load rfl rfl (load_cell cellInt hb4 rfl) (by decide) (pu (v:= .agg #[.int .i64 i]) rfl (by kernel_rfl) (pu (v:= .iface 107 (.agg #[.int .i64 i])) rfl (by kernel_rfl) (mv 1 rfl (ne_ (cw_ret (eo_block_ret ?_)))))))))))))
   refine eo_thenR (eo_ret [.iface 107 (.agg #[.int .i64 i])] rfl ⟨rfl,trivial⟩ ?_)
   exact⟨_,rfl,Or.inr (Or.inl ⟨hk2,rfl⟩),hw1⟩
  · 
   refine cw_region (wl_cmp rfl rfl rfl false (ci_eq_f hk2) (by decide) (mv 1 rfl (ne_ (cw_false rfl (cw_seq ?_)))))
   by_cases hk3:k=3
   · 
    refine cw_region (wl_cmp rfl rfl rfl true (ci_eq_t hk3) (by decide) (mv 1 rfl (ne_ (cw_true rfl (cw_seq ?_)))))
    refine cw_draw mix 9 [] [Is (.pointer (some ⟨g1,1,none⟩)),Is (.int .i64 i),Is (.pointer (some ⟨g1,2,none⟩)),Is (.int .i64 j),Is (.pointer (some ⟨g1,3,none⟩)),Is (.agg #[.bool sf,.slice Af nf cf]),ZR w.heap.size (f),AddQ w.heap.size i j f,AddI w.heap.size i j f] [[],[0],[],[2],[],[4],[5],[1,3,6],[7]] [[],[0],[],[2],[],[4],[4,5],[0,1,2,3,4,5,6],[0,1,2,3,4,5,6,7],[0,1,2,3,4,5,6,7,8]] rfl
     (obs_cons rfl rfl (hob rfl rfl ?_) (obs_cons rfl rfl (hob rfl rfl ?_) (obs_cons rfl rfl (hob rfl rfl ?_) (obs_cons rfl rfl (hob rfl rfl ?_) (obs_cons rfl rfl (hob rfl rfl ?_) (obs_cons rfl rfl (hob rfl rfl ?_) (obs_cons rfl rfl (hob rfl rfl ?_) (obs_cons rfl rfl (hob rfl rfl ?_) (obs_cons rfl rfl (hob rfl rfl ?_) obs_nil))))))))) ?_
    · 
     exact fun _ _=>deps_nil (pf g1 1 rfl (by kernel_rfl) (pi_done rfl (Ext.refl _) rfl))
    · 
     exact fun _ e12=>dk rfl rfl (deps_nil (wl_load rfl rfl (load_cell cellInt (hb4.ext e12) rfl) (by decide) (pi_done rfl (Ext.refl _) rfl)))
    · 
     exact fun _ _=>deps_nil (pf g1 2 rfl (by kernel_rfl) (pi_done rfl (Ext.refl _) rfl))
    · 
     exact fun _ e21=>dk rfl rfl (deps_nil (wl_load rfl rfl (load_cell cellInt (hb4.ext e21) rfl) (by decide) (pi_done rfl (Ext.refl _) rfl)))
    · 
     exact fun _ _=>deps_nil (pf g1 3 rfl (by kernel_rfl) (pi_done rfl (Ext.refl _) rfl))
    · 
     exact fun _ e30=>dk rfl rfl (deps_nil (lo aggInt (hb4.ext e30) [.bool sf,.slice Af nf cf] rfl rfl rfl (pi_done rfl (Ext.refl _) rfl)))
    · 
     intro v36 e37
     have hw2:=hw1.trans e37
     refine dk rfl rfl (deps_nil (cl (vs:= [.agg #[.bool sf,.slice Af nf cf]]) hw2 (g_zint_Least hw2.size (hf.ext hw2) (lx_ lf rfl)) rfl (by kernel_rfl) fun xr45 v43 r45 e44 hw3=>?_))
     obtain⟨s46,A46,n46,c46,rfl,z46⟩:=r45
     exact pi_done rfl e44 ⟨_,_,_,_,rfl,z46⟩
    · 
     intro v47 e48
     refine dk rfl rfl (dk rfl rfl (deps_cons rfl rfl fun x59 y60 h61 e62 f63=>?_))
     obtain⟨s64,A64,n64,c64,rfl,z64⟩:=h61
     have z64:=z64.ext f63
     refine deps_nil (pu (v:= .agg #[.int .i64 i,.int .i64 j,.bool s64,.slice A64 n64 c64]) rfl (by kernel_rfl) ?_)
     exact pi_done rfl (Ext.refl _) ⟨_,_,_,_,rfl,z64⟩
    · 
     intro v65 e66
     refine deps_cons rfl rfl fun x67 y68 h69 e70 f71=>?_
     obtain⟨s72,A72,n72,c72,rfl,z72⟩:=h69
     have z72:=z72.ext f71
     refine deps_nil (pu (v:= .iface 109 (.agg #[.int .i64 i,.int .i64 j,.bool s72,.slice A72 n72 c72])) rfl (by kernel_rfl) ?_)
     exact pi_done rfl (Ext.refl _) ⟨_,_,_,_,rfl,z72⟩
    · 
     intro v73 e74
     have hw2:=hw1.trans e74
     refine dk rfl rfl (dk rfl rfl (dk rfl rfl (dk rfl rfl (dk rfl rfl (dk rfl rfl (deps_cons rfl rfl fun x105 y106 h107 e108 f109=>?_))))))
     obtain⟨s110,A110,n110,c110,rfl,z110⟩:=h107
     have z110:=z110.ext f109
     refine deps_cons rfl rfl fun x111 y112 h113 e114 f115=>?_
     obtain⟨s116,A116,n116,c116,rfl,z116⟩:=h113
     have z116:=z116.ext f115
     refine deps_cons rfl rfl fun x117 y118 h119 e120 f121=>?_
     obtain⟨s122,A122,n122,c122,rfl,z122⟩:=h119
     have z122:=z122.ext f121
     refine deps_nil (mv 1 rfl (wl_nil (eo_np (eo_then (cw_ret (eo_block_ret (eo_thenR (eo_ret [.iface 109 (.agg #[.int .i64 i,.int .i64 j,.bool s122,.slice A122 n122 c122])] rfl ⟨rfl,trivial⟩ ?_))))))))
     exact⟨_,rfl,Or.inr (Or.inr (Or.inl ⟨hk3,_,_,_,_,rfl,z122⟩)),hw2⟩
   · 
    refine cw_region (wl_cmp rfl rfl rfl false (ci_eq_f hk3) (by decide) (mv 1 rfl (ne_ (cw_false rfl (cw_skip (eo_block_normal (eo_then (sr (pu (v:= .agg #[]) rfl (by kernel_rfl) (pu (v:= .iface 111 (.agg #[])) rfl (by kernel_rfl) (mv 1 rfl (ne_ (cw_ret ?_)))))))))))))
    refine eo_ret [.iface 111 (.agg #[])] rfl ⟨rfl,trivial⟩ ?_
    exact⟨_,rfl,Or.inr (Or.inr (Or.inr ⟨hk1,hk2,hk3,rfl⟩)),hw1⟩
theorem Mv.imp {b b':Nat}{s:Stp}(hb:b'≤b){v:Value}{w:World}(h:Mv b s v w):Mv b' s v w:=
 Or.imp id (Or.imp id (Or.imp (fun⟨h,t,B,m,c,e,z⟩=>⟨h,t,B,m,c,e,z.mono hb⟩) id)) h
theorem g_stp_read {w:World}{b:Nat}(hb:b≤w.heap.size){k i j:Int}{sf:Bool}{Af:Option Addr}{nf cf:Nat}{f:Int}(hf:Zi w sf Af nf cf f) (lf:nf≤1048576):
  Calls Try.prog 51 #[.agg #[.int .i64 k,.int .i64 i,.int .i64 j,.bool sf,.slice Af nf cf]] w (Gv w (Mv b ⟨k,i,j,f⟩)):=(g_stp_readI hf lf).mono (Gv.imp (fun _ _ h=>h.imp hb))
section
variable {Q:Exit→Act→World→Prop}{N:Nat}{l:Fr}{w:World}{ops:Array Oper}{rest:List Oper}{d:Nat}{ty:TypeId}{pos:String}{af:Array Edge}{gd:Option (Nat×Bool)}
theorem wl_fits {x y:Operand}{ts:Array TypeId}{b n:Nat}{s:Stp}{v:Value}(hw:guardB ops l gd=some true) (hx:evo l x=some v) (hy:evo l y=some (.int .i64 (n:Int))) (hv:Mv b s v w) (hd:d<N)
  (h:∀w',Ext w w'→wl Try.prog ops Q N rest ((d,.bool (decide (s.fit n)))::l) w'):
  wl Try.prog ops Q N (⟨some d,.call {callee:= .invoke x "trellis/steps.fits",args:= #[y],argTypes:=ts},ty,pos,af,gd⟩::rest) l w:=by
 have hys:(#[y]:Array Operand).toList.map (evo l)= [Value.int .i64 (n:Int)].map some:=by simp [hy]
 have fin:∀{P:Prop} [Decidable P] {e:Ending}{w':World},(P↔s.fit n)→Gv w (Is (.bool (decide P))) e w'→Ret (fun v=>wl Try.prog ops Q N rest ((d,v)::l) w') e:=by
  intro P _ e w' hP he
  obtain⟨u,rfl,hu,hx⟩:=he
  refine ret_intro ?_
  rw [show u=_ from hu,decide_eq_decide.2 hP]
  exact h w' hx
 rcases hv with⟨hk,rfl⟩ | ⟨hk,rfl⟩ | ⟨hk,t,B,m,c,rfl,hz⟩ | ⟨h1,h2,h3,rfl⟩
 ·exact wl_callI [.int .i64 (n:Int)] hw hx hys (fun _=>by kernel_rfl) hd g_stp_fits_swap fun e w' he=>fin (by unfold Stp.fit;simp [hk]) he
 ·exact wl_callI [.int .i64 (n:Int)] hw hx hys (fun _=>by kernel_rfl) hd g_stp_fits_negate fun e w' he=>fin (by unfold Stp.fit;simp [hk]) he
 ·exact wl_callI [.int .i64 (n:Int)] hw hx hys (fun _=>by kernel_rfl) hd g_stp_fits_add fun e w' he=>fin (by unfold Stp.fit;simp [hk]) he
 ·exact wl_callI [.int .i64 (n:Int)] hw hx hys (fun _=>by kernel_rfl) hd g_stp_fits_alien fun e w' he=>fin (by unfold Stp.fit;simp [h1,h2,h3]) he
end
end Go.Proofs.Ytgekkehpljbklaa
