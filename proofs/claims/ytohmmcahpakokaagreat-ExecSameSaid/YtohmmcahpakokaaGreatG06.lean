/- The hash tree in plain Lean: roots, paths, the root that follows from a leaf and its path. -/
import Derived.Test.YtohmmcahpakokaaGreatG05
set_option maxRecDepth 100000
set_option maxHeartbeats 8000000
set_option linter.unusedVariables false
set_option linter.unusedSimpArgs false
namespace Go.Proofs.YtohmmcahpakokaaGreat
section
open Go.RowKit
def lX:Nat→Nat→Nat→Nat
 | 0,_,k=>k
 | f+1,n,k=>if k < n - k then lX f n (2 * k) else k
def spl (n:Nat):Nat:=lX n n 1
theorem aHd (f n k:Nat) (h1:1≤k) (h2:k < n):1≤lX f n k∧lX f n k < n:=by
 induction f generalizing k with
 | zero=>exact ⟨h1,h2⟩
 | succ f ih =>
  unfold lX
  split
  ·exact ih (2 * k) (by omega) (by omega)
  exact ⟨h1,h2⟩
theorem gB (n:Nat) (h:2≤n):1≤spl n∧spl n < n:=aHd n n 1 (by omega) (by omega)
theorem uC (f n k:Nat) (h:¬ k < n - k):lX f n k=k:=by
 cases f with
 | zero=>rfl
 | succ f=>unfold lX;rw [if_neg h]
theorem aBN (f n k:Nat) (hk:1≤k) (hf:n - k≤f) (h:k < n - k):lX f n k=lX (f - 1) n (2 * k):=by
 cases f with
 | zero=>omega
 | succ f=>rw [lX,if_pos h];rfl
def sF (x:UInt64):UInt64:=dW 17 (nmb x)
def dJ (l:List UInt64):UInt64 :=
 if h:2≤l.length then kE 18 (dJ (l.take (spl l.length))) (dJ (l.drop (spl l.length)))
 else match l with
  | []=>dW 16 []
  | x :: _=>sF x
termination_by l.length
decreasing_by
 ·have:=gB _ h;simp;omega
 have:=gB _ h;simp;omega
theorem aFL:dJ []=dW 16 []:=by rw [dJ];simp
theorem yN (x:UInt64):dJ [x]=sF x:=by rw [dJ];simp
theorem oM (l:List UInt64) (h:2≤l.length):dJ l=kE 18 (dJ (l.take (spl l.length))) (dJ (l.drop (spl l.length))):=by rw [dJ,dif_pos h]
def fL (l:List UInt64) (i:Nat):List UInt64 :=
 if h:2≤l.length then
  if i < spl l.length then fL (l.take (spl l.length)) i ++ [dJ (l.drop (spl l.length))]
  else fL (l.drop (spl l.length)) (i - spl l.length) ++ [dJ (l.take (spl l.length))]
 else []
termination_by l.length
decreasing_by
 ·have:=gB _ h;simp;omega
 have:=gB _ h;simp;omega
theorem sB (l:List UInt64) (i:Nat) (h:¬ 2≤l.length):fL l i=[]:=by rw [fL,dif_neg h]
theorem rB (l:List UInt64) (i:Nat) (h:2≤l.length) (hi:i < spl l.length):fL l i=fL (l.take (spl l.length)) i ++ [dJ (l.drop (spl l.length))]:=by rw [fL,dif_pos h,if_pos hi]
theorem oQ (l:List UInt64) (i:Nat) (h:2≤l.length) (hi:¬ i < spl l.length):fL l i=fL (l.drop (spl l.length)) (i - spl l.length) ++ [dJ (l.take (spl l.length))]:=by rw [fL,dif_pos h,if_neg hi]
def fP (i n:Nat):Nat :=
 if h:2≤n then (if i < spl n then fP i (spl n) else fP (i - spl n) (n - spl n))+1 else 0
termination_by n
decreasing_by
 ·have:=gB _ h;omega
 have:=gB _ h;omega
theorem jT (i n:Nat) (h:¬ 2≤n):fP i n=0:=by rw [fP,dif_neg h]
theorem jU (i n:Nat) (h:2≤n) (hi:i < spl n):fP i n=fP i (spl n)+1:=by rw [fP,dif_pos h,if_pos hi]
theorem iG (i n:Nat) (h:2≤n) (hi:¬ i < spl n):fP i n=fP (i - spl n) (n - spl n)+1:=by rw [fP,dif_pos h,if_neg hi]
theorem pU (l:List UInt64) (i:Nat):(fL l i).length=fP i l.length:=by
 generalize hn:l.length=n
 induction n using Nat.strongRecOn generalizing l i with
 | _ n ih =>
  subst hn
  by_cases h:2≤l.length
  ·have hb := gB _ h
   by_cases hi:i < spl l.length
   ·rw [rB l i h hi,jU _ _ h hi,List.length_append,ih (spl l.length) hb.2 (l.take (spl l.length)) i (by simp;omega)];rfl
   rw [oQ l i h hi,iG _ _ h hi,List.length_append,ih (l.length - spl l.length) (by omega) (l.drop (spl l.length)) _ (by simp)];rfl
  rw [sB l i h,jT _ _ h];rfl
def dR (leaf:UInt64) (i n:Nat) (path:List UInt64):UInt64 :=
 if h:2≤n then
  if i < spl n then kE 18 (dR leaf i (spl n) path.dropLast) (path.getLastD 0)
  else kE 18 (path.getLastD 0) (dR leaf (i - spl n) (n - spl n) path.dropLast)
 else sF leaf
termination_by n
decreasing_by
 ·have:=gB _ h;omega
 have:=gB _ h;omega
theorem sN (leaf:UInt64) (i n:Nat) (path:List UInt64) (h:¬ 2≤n):dR leaf i n path=sF leaf:=by rw [dR,dif_neg h]
theorem zD (leaf:UInt64) (i n:Nat) (path:List UInt64) (h:2≤n) (hi:i < spl n):dR leaf i n path=kE 18 (dR leaf i (spl n) path.dropLast) (path.getLastD 0):=by rw [dR,dif_pos h,if_pos hi]
theorem wJ (leaf:UInt64) (i n:Nat) (path:List UInt64) (h:2≤n) (hi:¬ i < spl n):dR leaf i n path=kE 18 (path.getLastD 0) (dR leaf (i - spl n) (n - spl n) path.dropLast):=by rw [dR,dif_pos h,if_neg hi]
theorem aCQ (l:List UInt64) (i:Nat) (hi:i < l.length):dR (l.getD i 0) i l.length (fL l i)=dJ l:=by
 generalize hn:l.length=n
 induction n using Nat.strongRecOn generalizing l i with
 | _ n ih =>
  subst hn
  by_cases h:2≤l.length
  ·have hb := gB _ h
   by_cases hk:i < spl l.length
   ·rw [zD _ _ _ _ h hk, oM l h, rB l i h hk]
    have e:=ih (spl l.length) hb.2 (l.take (spl l.length)) i (by simp;omega) (by simp;omega)
    have e2:(l.take (spl l.length)).getD i 0=l.getD i 0:=by simp [List.getElem?_take,hk]
    rw [e2] at e
    rw [List.dropLast_concat,List.getLastD_concat,e]
   rw [wJ _ _ _ _ h hk,oM l h,oQ l i h hk]
   have e:=ih (l.length - spl l.length) (by omega) (l.drop (spl l.length)) (i - spl l.length) (by simp;omega) (by simp)
   have e2:(l.drop (spl l.length)).getD (i - spl l.length) 0=l.getD i 0:=by
    simp [List.getElem?_drop,show spl l.length+(i - spl l.length)=i from by omega]
   rw [e2] at e
   rw [List.dropLast_concat,List.getLastD_concat,e]
  have h1:l.length=1:=by omega
  obtain ⟨x,rfl⟩:=List.length_eq_one_iff.1 h1
  obtain rfl:i=0:=by simp at hi;omega
  rw [sN _ _ _ _ (by simp),yN];rfl
end
section
open Go.RowKit
attribute [local go_sem ↓] Go.wp_at_zero Go.wp_at_succ
theorem nF (n:Nat) (w:World) (h2:2≤n) (hm:n≤1000000) :
  Calls Tryz.prog 263 #[.int .i64 (n:Int)] w fun e w'=>e=.returned (.int .i64 (spl n:Int))∧w=w':=by
 go_enter Tryz.func263,Tryz.ntmps263
 go_wp2_with fail
 go_loop [3] (fun v=>∃ (f k:Nat),v=.int .i64 (k:Int)∧1≤k∧k < n∧n - k≤f∧Hid (lX f n k=spl n)) (fun v=>n - (intOf v).toNat)
 case atStart=>exact ⟨n,1,rfl,by omega,by omega,by omega,rfl⟩
 case round =>
  obtain ⟨f,k,rfl,hk1,hk2,hf,hs⟩:=hrel
  by_cases hlt:k < n - k
  ·have hs2 := zh ((aBN f n k hk1 hf hlt).symm.trans hs.out)
   have hlt':(k:Int) < (n:Int) - (k:Int):=by omega
   go_wp2_with fail
   go_round
   case rel=>exact ⟨f - 1,2 * k,by go_num,by omega,by omega,by omega,hs2⟩
   case measure=>simp [intOf];omega
  have hs2:=zh ((uC f n k hlt).symm.trans hs.out)
  have hlt':¬ (k:Int) < (n:Int) - (k:Int):=by omega
  go_wp2_with fail
  go_ret
  exact ⟨by rw [← hs2.out];rfl,rfl⟩
theorem lI (n:Nat) (w:World) (h2:2≤n) (hm:n≤1000000) :
  Calls Tryz.prog 194 #[.int .i64 (n:Int)] w fun e w'=>e=.returned (.int .i64 (spl n:Int))∧w=w':=by
 go_enter Tryz.func194,Tryz.ntmps194
 go_wp2_with fail
 go_loop [3] (fun v=>∃ (f k:Nat),v=.int .i64 (k:Int)∧1≤k∧k < n∧n - k≤f∧Hid (lX f n k=spl n)) (fun v=>n - (intOf v).toNat)
 case atStart=>exact ⟨n,1,rfl,by omega,by omega,by omega,rfl⟩
 case round =>
  obtain ⟨f,k,rfl,hk1,hk2,hf,hs⟩:=hrel
  by_cases hlt:k < n - k
  ·have hs2 := zh ((aBN f n k hk1 hf hlt).symm.trans hs.out)
   have hlt':(k:Int) < (n:Int) - (k:Int):=by omega
   go_wp2_with fail
   go_round
   case rel=>exact ⟨f - 1,2 * k,by go_num,by omega,by omega,by omega,hs2⟩
   case measure=>simp [intOf];omega
  have hs2:=zh ((uC f n k hlt).symm.trans hs.out)
  have hlt':¬ (k:Int) < (n:Int) - (k:Int):=by omega
  go_wp2_with fail
  go_ret
  exact ⟨by rw [← hs2.out];rfl,rfl⟩
theorem aDF (x:UInt64) (w:World) :
  Calls Tryz.prog 264 #[.agg (nmc x)] w fun e w'=>e=.returned (.agg (nmc (sF x)))∧Ext w w':=by
 go_enter Tryz.func264,Tryz.ntmps264
 go_wp2_with fail
 refine (fZ 17 _ _ _ (nmb x) _ ?h1 (by omega)).mono ?_
 case h1=>exact SlB.blkN ((Blk.new w _ (nmc x)).alloc _)
 rintro e w3 ⟨rfl,he3⟩
 have hb0:Blk w3 (w.heap.size+1) 30 zcs.toArray:=(Blk.newAt _ _ _ _ (by simp)).ext he3
 go_wp2_with (with_reducible refine bG rfl _ _ rfl (w.heap.size+1) 0 _ rfl rfl (fN hb0) ?_)
 refine bodyPost_ret (v:=.agg (nmc (sF x))) (fI rfl _ _ (w.heap.size+1) _ rfl (blkN hb0 _)) rfl ⟨rfl,Below.setCells' ((((Ext.refl w).alloc' _).alloc' _).trans he3) (by omega) _ _⟩
theorem kA (N:Nat):∀ (n:Nat) (A:Option Addr) (c:Nat) (ns:List UInt64) (w:World),n≤N→n≤1000000→SlN w A n c ns →
  Calls Tryz.prog 133 #[.slice A n c] w fun e w'=>e=.returned (.agg (nmc (dJ ns)))∧Ext w w':=by
 induction N with
 | zero =>
  intro n A c ns w hn _ h
  obtain rfl:n=0:=by omega
  obtain rfl:ns=[]:=List.eq_nil_of_length_eq_zero h.len
  have HR:=zh aFL
  go_enter Tryz.func133,Tryz.ntmps133
  go_wp2_with fail
  refine (eA 16 none 0 0 [] _ (SlB.nil _) (by omega)).mono ?_
  rintro e w3 ⟨rfl,he3⟩
  have hb0:Blk w3 w.heap.size 30 zcs.toArray:=(Blk.new w _ _).ext he3
  go_wp2_with (with_reducible refine bG rfl _ _ rfl w.heap.size 0 _ rfl rfl (fN hb0) ?_)
  refine bodyPost_ret (v:=.agg (nmc (dW 16 []))) (fI rfl _ _ w.heap.size _ rfl (blkN hb0 _)) rfl ⟨by rw [HR.out],Below.setCells' (((Ext.refl w).alloc' _).trans he3) (by omega) _ _⟩
 | succ N ih =>
  intro n A c ns w hn hmx h
  by_cases h0:n≤N
  ·exact ih n A c ns w h0 hmx h
  by_cases h1:n=1
  ·subst h1
   obtain ⟨x,rfl⟩:=List.length_eq_one_iff.1 h.len
   obtain ⟨b,o,rfl,hra,hbl⟩:=h.at (by omega)
   have hnm:=(qA hra (k:=0) (by simp))
   rw [Nat.zero_mul,Nat.add_zero] at hnm
   have HR:=zh (yN x)
   have hnm2:(w.alloc (.cells zcs.toArray 30)).rangeAt b o (bcs (nmb x)):=World.rangeAt_alloc hnm _
   go_enter Tryz.func133,Tryz.ntmps133
   go_wp2_with fail
   refine (eA 17 _ _ _ (nmb x) _ ⟨aG x,Nat.le_refl _,by omega,.inr ⟨b,o,rfl,hnm2⟩⟩ (by omega)).mono ?_
   rintro e w3 ⟨rfl,he3⟩
   have hb0:Blk w3 w.heap.size 30 zcs.toArray:=(Blk.new w _ _).ext he3
   go_wp2_with (with_reducible refine bG rfl _ _ rfl w.heap.size 0 _ rfl rfl (fN hb0) ?_)
   refine bodyPost_ret (v:=.agg (nmc (sF x))) (fI rfl _ _ w.heap.size _ rfl (blkN hb0 _)) rfl ⟨by rw [HR.out],Below.setCells' (((Ext.refl w).alloc' _).trans he3) (by omega) _ _⟩
  by_cases h00:n=0
  ·exact ih n A c ns w (by omega) hmx h
  have hn2:2≤n:=by omega
  have hlen:=h.len
  have hle:=h.le
  have hcap:=h.cap
  have hsb:=gB n hn2
  have HR:=zh (oM ns (by omega))
  rw [hlen] at HR
  have e0:((n:Int) == 0)=false:=by simp;omega
  have e1:((n:Int) == 1)=false:=by simp;omega
  obtain ⟨k,hk⟩:∃ k,k=spl n:=⟨_,rfl⟩
  have Hk:=zh hk
  rw [← hk] at hsb HR
  clear hk
  have IH:=zh ih
  clear ih
  have hE1:Ext w (w.alloc (.cells zcs.toArray 30)).drew:=((Ext.refl w).alloc' _).drew'
  have hX:Ext (w.alloc (.cells zcs.toArray 30)).drew (w.alloc (.cells zcs.toArray 30)).drew:=Ext.refl _
  have hz:Blk (w.alloc (.cells zcs.toArray 30)).drew w.heap.size 30 zcs.toArray:=(Blk.new w _ _).drew
  have hs1:=(h.upto (k:=k) (by omega)).ext hE1
  have hs2:=(h.cut (k:=k) (by omega) (by omega)).ext hE1
  have b1:k≤n:=by omega
  have b2:k≤c:=by omega
  have b3:¬ c=k:=by omega
  go_enter Tryz.func133,Tryz.ntmps133
  go_wp2_with (go_at_call 194;refine (lI n _ hn2 (by omega)).mono ?_;rintro e w1 ⟨rfl,rfl⟩;rw [← Hk.out])
  go_region_held3 (fun _=>True) (trivial) (first | (go_at_call 133;refine (IH.out _ _ _ _ _ (by omega) (by omega) (by first | exact hs1.ext hX | exact hs2.ext hX)).mono ?_;rintro e w1 ⟨rfl,he1⟩;have hX:=Ext.trans hX he1) | (go_at_call 195;refine (aCb 18 _ _ _).mono ?_;rintro e w1 ⟨rfl,he1⟩;have hX:=Ext.trans hX he1;have hst:=cC (hz.ext hX) (kE 18 (dJ (ns.take k)) (dJ (ns.drop k)))))
  go_wp2_with fail
  refine bodyPost_ret (v:=.agg (nmc (kE 18 (dJ (ns.take k)) (dJ (ns.drop k))))) (fI rfl _ _ w.heap.size _ rfl (blkN (hz.ext hX) _)) rfl ⟨by rw [HR.out],Below.setCells' (hE1.trans hX) (Nat.le_refl _) _ _⟩
theorem aIo (i n:Nat) (w:World) (hi:i < n) (hm:n≤1000000) :
  Calls Tryz.prog 257 #[.int .i64 (i:Int),.int .i64 (n:Int)] w fun e w'=>e=.returned (.int .i64 (fP i n:Int))∧w=w':=by
 have e1:decide (n≤i)=false:=decide_eq_false (by omega)
 have e0:decide ((i:Int) < 0)=false:=decide_eq_false (by omega)
 go_enter Tryz.func257,Tryz.ntmps257
 go_wp2_with fail
 go_loop [0,1,5] (fun vi vn vd=>∃ (i' n' d:Nat),vi=.int .i64 (i':Int)∧vn=.int .i64 (n':Int)∧vd=.int .i64 (d:Int)∧i' < n'∧d+n'≤n∧Hid (d+fP i' n'=fP i n)) (fun _ vn _=>(intOf vn).toNat)
 case atStart=>exact ⟨i,n,0,rfl,rfl,rfl,hi,by omega,Nat.zero_add _⟩
 case round =>
  obtain ⟨i',n',d,rfl,rfl,rfl,hi',hd,hs⟩:=hrel
  by_cases h2:2≤n'
  ·have hsb := gB n' h2
   have h2':(1:Int) < (n':Int):=by omega
   obtain ⟨k,hk⟩:∃ k,k=spl n':=⟨_,rfl⟩
   have Hk:=zh hk
   rw [← hk] at hsb
   clear hk
   by_cases hlt:i' < k
   ·have hs2 : Hid (d + 1 + fP i' k = fP i n) := zh (by have := hs.out; rw [jU i' n' h2 (by rw [← Hk.out]; exact hlt), ← Hk.out] at this; omega)
    have hk':(i':Int) < (k:Int):=by omega
    go_wp2_with (go_at_call 263;refine (nF n' _ h2 (by omega)).mono ?_;rintro e w1 ⟨rfl,rfl⟩;rw [← Hk.out])
    go_round
    case rel=>first | exact ⟨i',k,d+1,rfl,rfl,by go_num,hlt,by omega,hs2⟩ | (refine ⟨trivial,?_⟩;(repeat apply Exists.intro);exact ⟨⟨i',k,d+1,rfl,rfl,by go_num,hlt,by omega,hs2⟩,rfl⟩)
    case measure=>simp [intOf];omega
   have hs2:Hid (d+1+fP (i' - k) (n' - k)=fP i n):=zh (by have:=hs.out;rw [iG i' n' h2 (by rw [← Hk.out];exact hlt),← Hk.out] at this;omega)
   have hk':¬ (i':Int) < (k:Int):=by omega
   go_wp2_with (go_at_call 263;refine (nF n' _ h2 (by omega)).mono ?_;rintro e w1 ⟨rfl,rfl⟩;rw [← Hk.out])
   go_round
   case rel=>first | exact ⟨i' - k,n' - k,d+1,by go_num,by go_num,by go_num,by omega,by omega,hs2⟩ | (refine ⟨trivial,?_⟩;(repeat apply Exists.intro);exact ⟨⟨i' - k,n' - k,d+1,by go_num,by go_num,by go_num,by omega,by omega,hs2⟩,rfl⟩)
   case measure=>simp [intOf];omega
  have hs2:Hid (d=fP i n):=zh (by have:=hs.out;rw [jT i' n' h2] at this;omega)
  have h2':¬ (1:Int) < (n':Int):=by omega
  go_wp2_with fail
  go_ret
  exact ⟨by rw [← hs2.out];rfl,rfl⟩
section
variable {P:Program} {t e:TypeId} {z:Value} {size bytes:Nat}
theorem aBX (E:Elem P t e z size bytes) (ty:TypeId) (w:World) (A:Option Addr) (n:Nat) (xs:List Value) (hra:Rd w A xs) (hla:xs.length=n * size)
  (A2:Option Addr) (m c2:Nat) (ys:List Value) (hr:Rd w A2 ys) (hl:ys.length=m * size) (hm:0 < m)
  (hb:(n+m) * bytes≤140737488355328) (h63:n+m≤4611686018427387904) :
  ∃ A' c' w',(Builtin.append_ #[t,t] ty #[.slice A n n,.slice A2 m c2]).run P w=.ok (.slice A' (n+m) c') w'∧w'.ownsRow w.heap.size e size (.slice A' (n+m) c') (n+m) (xs ++ ys)∧Ext w w':=by
 obtain ⟨i,hi,hz,hs,hby⟩:=E.get
 subst hs;subst hby
 have hp:=E.pos
 obtain ⟨ad2,rfl,hcb⟩:=hr.src (by rw [hl];exact Nat.mul_pos hm hp)
 rcases A with _ | ad
 ·have hx:xs=[]:=by
   rcases hra with h | ⟨b,o,h,_⟩
   ·exact h
   cases h
  subst hx
  have hn:n=0:=by
   rcases Nat.eq_zero_or_pos n with h | h
   ·exact h
   have:=Nat.mul_pos h hp;simp at hla;omega
  subst hn
  have hrun:=run_append_nil (P:=P) w t ty e i z E.ut hi hz ad2 m c2 ys hl hcb hm (by omega) (by have hb:=hb;simp only [Nat.zero_add] at hb;omega)
  have hge:=grownCap_ge w m 0 e
  have hcm:grownCap w m 0 e≤maxLen:=grownCap_le_maxLen w m 0 e (by simp only [maxLen];omega)
  simp only [Nat.zero_add,List.nil_append]
  refine ⟨_,_,_,hrun,⟨hl,.inr ⟨w.heap.size,_,_,rfl,Nat.le_refl _,heap_alloc_new w.drew _,hge,hcm,?_,?_⟩⟩,(Ext.refl w).drew'.alloc' _⟩
  ·simp only [Array.size_append, List.size_toArray, size_zeroCells, E.zs, hl, ← Nat.add_mul]
   congr 1;omega
  simp only [Array.toList_append]
  rw [← hl]
  exact List.take_left
 have hca:∀ j v,xs[j]?=some v→w.cell? (ad.add j)=some v:=by
  intro j v hv
  obtain ⟨ad',h,hc⟩:=hra.src (by have:=(List.getElem?_eq_some_iff.1 hv).1;omega)
  injection h with h;subst h;exact hc j v hv
 have hg:n < n+m:=by omega
 have hrun:=run_append_grow (P:=P) w t ty e i z E.ut hi hz ad n n xs hla hca ad2 m c2 ys hl hcb hg (by omega) (growslice_fits hg hb)
 refine ⟨_,_,_,hrun,⟨by rw [List.length_append,hla,hl,Nat.add_mul],.inr ⟨w.heap.size,_,_,rfl,Nat.le_refl _,heap_alloc_new w.drew _,grownCap_ge w _ _ _,grownCap_le_maxLen w _ _ _ (by simp only [maxLen];omega),?_,?_⟩⟩,(Ext.refl w).drew'.alloc' _⟩
 ·simp only [Array.size_append, List.size_toArray, size_zeroCells, E.zs, hla, hl, ← Nat.add_mul]
  have:=grownCap_ge w (n+m) n e
  congr 1;omega
 simp only [Array.toList_append,List.append_assoc]
 rw [← List.append_assoc,show (n+m) * i.size=(xs ++ ys).length from by rw [List.length_append,hla,hl,Nat.add_mul]]
 exact List.take_left
end
theorem aAX (i n:Nat):fP i n≤n:=by
 induction n using Nat.strongRecOn generalizing i with
 | _ n ih =>
  by_cases h:2≤n
  ·have hb := gB n h
   by_cases hi:i < spl n
   ·rw [jU i n h hi];have:=ih (spl n) hb.2 i;omega
   rw [iG i n h hi];have:=ih (n - spl n) (by omega) (i - spl n);omega
  rw [jT i n h];omega
theorem mQ (N:Nat):∀ (n i:Nat) (A:Option Addr) (c:Nat) (ns:List UInt64) (w:World),n≤N→n≤1000000→i < n→SlN w A n c ns →
  Calls Tryz.prog 137 #[.slice A n c,.int .i64 (i:Int)] w fun e w'=>∃ A' c',e=.returned (.tuple #[.slice A' (fP i n) c',.bool true])∧w'.ownsRow w.heap.size 30 8 (.slice A' (fP i n) c') (fP i n) (ncs (fL ns i))∧Ext w w':=by
 induction N with
 | zero=>intro n i A c ns w hn _ hi h;omega
 | succ N ih =>
  intro n i A c ns w hn hmx hi h
  by_cases h0:n≤N
  ·exact ih n i A c ns w h0 hmx hi h
  have e0:decide ((i:Int) < 0)=false:=decide_eq_false (by omega)
  have e1:decide (n≤i)=false:=decide_eq_false (by omega)
  by_cases h1:n=1
  ·subst h1
   have HD:=zh (jT i 1 (by omega))
   have HP:=zh (sB ns i (by rw [h.len];omega))
   go_enter Tryz.func137,Tryz.ntmps137
   go_wp2_with fail
   go_ret2
   rw [HD.out,HP.out]
   exact ⟨none,0,rfl,World.ownsRow_nil _ _ _ _,Ext.refl w⟩
  have hn2:2≤n:=by omega
  have hlen:=h.len
  have hle:=h.le
  have hcap:=h.cap
  have hsb:=gB n hn2
  have n1:((n:Int) == 1)=false:=by simp;omega
  obtain ⟨k,hk⟩:∃ k,k=spl n:=⟨_,rfl⟩
  have Hk:=zh hk
  rw [← hk] at hsb
  have IH:=zh ih
  clear ih
  have hs1:=h.upto (k:=k) (by omega)
  have hs2:=h.cut (k:=k) (by omega) (by omega)
  have b1:k≤n:=by omega
  have b2:k≤c:=by omega
  have b3:¬ c=k:=by omega
  by_cases hlt:i < k
  ·have HD := zh (jU i n hn2 (by rw [← hk]; exact hlt))
   have HP:=zh (rB ns i (by omega) (by rw [hlen,← hk];exact hlt))
   rw [← hk] at HD
   rw [hlen,← hk] at HP
   clear hk
   have hdl:=aAX i k
   have hlt':(i:Int) < (k:Int):=by omega
   go_enter Tryz.func137,Tryz.ntmps137
   go_wp2_with (go_at_call 194;refine (lI n _ hn2 (by omega)).mono ?_;rintro e w1 ⟨rfl,rfl⟩;rw [← Hk.out])
   refine (IH.out k i A c (ns.take k) _ (by omega) (by omega) hlt hs1).mono ?_
   rintro e w1 ⟨A1,c1,rfl,ho1,he1⟩
   go_wp2_with fail
   refine (kA n (n - k) _ _ (ns.drop k) _ (by omega) (by omega) (hs2.ext he1)).mono ?_
   rintro e w2 ⟨rfl,he2⟩
   have ho2:=bF ho1 he2
   have hE2:=Ext.trans he1 he2
   have hsz:=hE2.size
   generalize fP i k=d at *
   go_wp2_with (at_builtin;go_must (refine fX dV rfl (.tmp 36) (.tmp 41) rfl w.heap.size _ _ _ _ rfl (ho2.alloc _) _ _ _ (ncs [dJ (ns.drop k)]) rfl (Rd.newN _ _ _ _ rfl) (by rw [cV];rfl) (nH _) ?b1 ?c1 ?d1 w ?w1 ?_))
   case b1=>omega
   case c1=>omega
   case d1=>simp;omega
   case w1=>exact Below.alloc hE2 hsz _
   intro A3 c3 w3 ho3 hw3 hs3
   go_wp2_with fail
   go_ret2
   rw [HD.out,HP.out,eP]
   exact ⟨A3,c3,rfl,ho3,hw3⟩
  have HD:=zh (iG i n hn2 (by rw [← hk];exact hlt))
  have HP:=zh (oQ ns i (by omega) (by rw [hlen,← hk];exact hlt))
  rw [← hk] at HD
  rw [hlen,← hk] at HP
  clear hk
  have hdl:=aAX (i - k) (n - k)
  have hlt':¬ (i:Int) < (k:Int):=by omega
  go_enter Tryz.func137,Tryz.ntmps137
  go_wp2_with (go_at_call 194;refine (lI n _ hn2 (by omega)).mono ?_;rintro e w1 ⟨rfl,rfl⟩;rw [← Hk.out])
  rw [show (i:Int) - (k:Int)=((i - k:Nat):Int) from by omega]
  refine (IH.out (n - k) (i - k) _ (c - k) (ns.drop k) _ (by omega) (by omega) (by omega) hs2).mono ?_
  rintro e w1 ⟨A1,c1,rfl,ho1,he1⟩
  go_wp2_with fail
  refine (kA n k _ _ (ns.take k) _ (by omega) (by omega) (hs1.ext he1)).mono ?_
  rintro e w2 ⟨rfl,he2⟩
  have ho2:=bF ho1 he2
  have hE2:=Ext.trans he1 he2
  have hsz:=hE2.size
  generalize fP (i - k) (n - k)=d at *
  go_wp2_with (at_builtin;go_must (refine fX dV rfl (.tmp 53) (.tmp 58) rfl w.heap.size _ _ _ _ rfl (ho2.alloc _) _ _ _ (ncs [dJ (ns.take k)]) rfl (Rd.newN _ _ _ _ rfl) (by rw [cV];rfl) (nH _) ?b1 ?c1 ?d1 w ?w1 ?_))
  case b1=>omega
  case c1=>omega
  case d1=>simp;omega
  case w1=>exact Below.alloc hE2 hsz _
  intro A3 c3 w3 ho3 hw3 hs3
  go_wp2_with fail
  go_ret2
  rw [HD.out,HP.out,eP]
  exact ⟨A3,c3,rfl,ho3,hw3⟩
theorem aGh (ns:List UInt64) (d:Nat) (h:ns.length=d+1):ns.dropLast=ns.take d∧ns.getLastD 0=gO ns d:=by
 constructor
 ·rw [List.dropLast_eq_take,h];rfl
 unfold gO
 rcases List.eq_nil_or_concat ns with rfl | ⟨l,x,rfl⟩
 ·simp at h
 simp only [List.concat_eq_append,List.length_append,List.length_cons,List.length_nil,Nat.zero_add,Nat.add_right_cancel_iff] at h
 subst h
 rw [List.concat_eq_append,List.getLastD_concat];simp
theorem aAZ (N:Nat):∀ (leaf:UInt64) (n i m:Nat) (A:Option Addr) (c:Nat) (ns:List UInt64) (w:World),n≤N→n≤1000000→i < n→m=fP i n→SlN w A m c ns →
  Calls Tryz.prog 258 #[.agg (nmc leaf),.int .i64 (i:Int),.int .i64 (n:Int),.slice A m c] w fun e w'=>e=.returned (.agg (nmc (dR leaf i n ns)))∧Ext w w':=by
 induction N with
 | zero=>intro leaf n i m A c ns w hn _ hi;omega
 | succ N ih =>
  intro leaf n i m A c ns w hn hmx hi hm h
  by_cases h0:n≤N
  ·exact ih leaf n i m A c ns w h0 hmx hi hm h
  have HM:=zh hm
  clear hm
  by_cases h1:n=1
  ·subst h1
   have HC:=zh (sN leaf i 1 ns (by omega))
   have hrl:=eB ((Blk.new w 30 (nmc leaf)).alloc (.cells zcs.toArray 30))
   go_enter Tryz.func258,Tryz.ntmps258
   go_wp2_with (refine aT rfl (.tmp 4) rfl w.heap.size 0 rfl leaf hrl ?_)
   refine (aDF _ _).mono ?_
   rintro e w3 ⟨rfl,he3⟩
   have hb0:Blk w3 (w.heap.size+1) 30 zcs.toArray:=(Blk.newAt _ _ _ _ (by simp)).ext he3
   go_wp2_with (with_reducible refine bG rfl _ _ rfl (w.heap.size+1) 0 _ rfl rfl (fN hb0) ?_)
   refine bodyPost_ret (v:=.agg (nmc (sF leaf))) (fI rfl _ _ (w.heap.size+1) _ rfl (blkN hb0 _)) rfl ⟨by rw [HC.out],Below.setCells' ((((Ext.refl w).alloc' _).alloc' _).trans he3) (by omega) _ _⟩
  have hn2:2≤n:=by omega
  have hsb:=gB n hn2
  have n1:((n:Int) == 1)=false:=by simp;omega
  obtain ⟨k,hk⟩:∃ k,k=spl n:=⟨_,rfl⟩
  have Hk:=zh hk
  rw [← hk] at hsb
  have IH:=zh ih
  clear ih
  obtain ⟨d,rfl⟩:∃ d,m=d+1:=by
   have:=HM.out
   by_cases hlt:i < spl n
   ·rw [jU i n hn2 hlt] at this;exact ⟨_,this⟩
   rw [iG i n hn2 hlt] at this;exact ⟨_,this⟩
  have hdb:d+1≤n:=by have:=HM.out;have:=aAX i n;omega
  obtain ⟨b,o,rfl,hra,hbl⟩:=h.at (by omega)
  have hlen:=h.len
  have hle:=h.le
  have hcap:=h.cap
  have hlt2:=aGh ns d hlen
  have hE1:Ext w ((w.alloc (.cells (nmc leaf) 30)).alloc (.cells zcs.toArray 30)).drew:=(((Ext.refl w).alloc' _).alloc' _).drew'
  have hX:Ext ((w.alloc (.cells (nmc leaf) 30)).alloc (.cells zcs.toArray 30)).drew ((w.alloc (.cells (nmc leaf) 30)).alloc (.cells zcs.toArray 30)).drew:=Ext.refl _
  have hz:Blk ((w.alloc (.cells (nmc leaf) 30)).alloc (.cells zcs.toArray 30)).drew (w.heap.size+1) 30 zcs.toArray:=(Blk.newAt _ _ _ _ (by simp)).drew
  have hlf:Blk ((w.alloc (.cells (nmc leaf) 30)).alloc (.cells zcs.toArray 30)).drew w.heap.size 30 (nmc leaf):=((Blk.new w _ _).alloc _).drew
  have hnm:=bE (qA hra (k:=d) (by omega)) (hE1.block b hbl)
  have hbl1:=Nat.lt_of_lt_of_le hbl hE1.size
  have SS:∀ w',Below (w.heap.size+1) ((w.alloc (.cells (nmc leaf) 30)).alloc (.cells zcs.toArray 30)).drew w'→(∀ i,i < 8→w'.cell? ⟨w.heap.size,i,none⟩=some (.int .u8 (nb8 leaf i)))∧(∀ i,i < 8→w'.cell? ⟨b,o+d * 8+i,none⟩=some (.int .u8 (nb8 (gO ns d) i)))∧w'.cell? ⟨b,o+d * 8,none⟩=some (.int .u8 (nb8 (gO ns d) 0)):=fun w' hx =>
   ⟨eY (hlf.below hx (by omega)),aDb (bE hnm (hx.block b (by omega))),aDb (bE hnm (hx.block b (by omega))) 0 (by omega)⟩
  have HB:w.heap.size+1≤((w.alloc (.cells (nmc leaf) 30)).alloc (.cells zcs.toArray 30)).drew.heap.size:=by simp
  have HSS:=zh SS
  clear SS hnm
  have hs1:=(h.upto (k:=d) (by omega)).ext hE1
  have b1:(d:Int) < (d:Int)+1:=by omega
  have b2:d≤c:=by omega
  by_cases hlt:i < k
  ·have HC := zh (zD leaf i n ns hn2 (by rw [← hk]; exact hlt))
   rw [← hk,hlt2.1,hlt2.2] at HC
   have hdk:d=fP i k:=by have:=HM.out;rw [jU i n hn2 (by rw [← hk];exact hlt),← hk] at this;omega
   have Hdk:=zh hdk
   clear hk hlt2 hdk
   have hlt':(i:Int) < (k:Int):=by omega
   go_enter Tryz.func258,Tryz.ntmps258
   go_wp2_with (go_at_call 263;refine (nF n _ hn2 (by omega)).mono ?_;rintro e w1 ⟨rfl,rfl⟩;rw [← Hk.out])
   go_region_held3 (fun w'=>(∀ i,i < 8→w'.cell? ⟨w.heap.size,i,none⟩=some (.int .u8 (nb8 leaf i)))∧(∀ i,i < 8→w'.cell? ⟨b,o+d * 8+i,none⟩=some (.int .u8 (nb8 (gO ns d) i)))∧w'.cell? ⟨b,o+d * 8,none⟩=some (.int .u8 (nb8 (gO ns d) 0))) (first | with_reducible exact HSS.out _ (Below.setCells' (Below.mono hX HB) (Nat.le_refl _) _ _) | with_reducible exact HSS.out _ (Below.mono hX HB)) (first | (go_at_call 258;refine (IH.out leaf k i d _ c (ns.take d) _ (by omega) (by omega) hlt Hdk.out (hs1.ext hX)).mono ?_;rintro e w1 ⟨rfl,he1⟩;have hX:=Ext.trans hX he1) | (go_at_call 265;refine (aCg 18 _ _ _).mono ?_;rintro e w2 ⟨rfl,he2⟩;have hX:=Ext.trans hX he2;have hst:=cC (hz.ext hX) (kE 18 (dR leaf i k (ns.take d)) (gO ns d))))
   go_wp2_with fail
   refine bodyPost_ret (v:=.agg (nmc (kE 18 (dR leaf i k (ns.take d)) (gO ns d)))) (fI rfl _ _ (w.heap.size+1) _ rfl (blkN (hz.ext hX) _)) rfl ⟨by rw [HC.out],Below.setCells' (hE1.trans hX) (by omega) _ _⟩
  have HC:=zh (wJ leaf i n ns hn2 (by rw [← hk];exact hlt))
  rw [← hk,hlt2.1,hlt2.2] at HC
  have hdk:d=fP (i - k) (n - k):=by have:=HM.out;rw [iG i n hn2 (by rw [← hk];exact hlt),← hk] at this;omega
  have Hdk:=zh hdk
  clear hk hlt2 hdk
  have hlt':¬ (i:Int) < (k:Int):=by omega
  have hsub:IntKind.i64.wrap ((i:Int) - (k:Int))=((i - k:Nat):Int):=by rw [IntKind.wrap_i64];omega
  have hsub2:IntKind.i64.wrap ((n:Int) - (k:Int))=((n - k:Nat):Int):=by rw [IntKind.wrap_i64];omega
  go_enter Tryz.func258,Tryz.ntmps258
  go_wp2_with (go_at_call 263;refine (nF n _ hn2 (by omega)).mono ?_;rintro e w1 ⟨rfl,rfl⟩;rw [← Hk.out])
  go_region_held3 (fun w'=>(∀ i,i < 8→w'.cell? ⟨w.heap.size,i,none⟩=some (.int .u8 (nb8 leaf i)))∧(∀ i,i < 8→w'.cell? ⟨b,o+d * 8+i,none⟩=some (.int .u8 (nb8 (gO ns d) i)))∧w'.cell? ⟨b,o+d * 8,none⟩=some (.int .u8 (nb8 (gO ns d) 0))) (first | with_reducible exact HSS.out _ (Below.setCells' (Below.mono hX HB) (Nat.le_refl _) _ _) | with_reducible exact HSS.out _ (Below.mono hX HB)) (first | (go_at_call 258;refine (IH.out leaf (n - k) (i - k) d _ c (ns.take d) _ (by omega) (by omega) (by omega) Hdk.out (hs1.ext hX)).mono ?_;rintro e w1 ⟨rfl,he1⟩;have hX:=Ext.trans hX he1) | (go_at_call 265;refine (aCg 18 _ _ _).mono ?_;rintro e w2 ⟨rfl,he2⟩;have hX:=Ext.trans hX he2;have hst:=cC (hz.ext hX) (kE 18 (gO ns d) (dR leaf (i - k) (n - k) (ns.take d)))))
  go_wp2_with fail
  refine bodyPost_ret (v:=.agg (nmc (kE 18 (gO ns d) (dR leaf (i - k) (n - k) (ns.take d))))) (fI rfl _ _ (w.heap.size+1) _ rfl (blkN (hz.ext hX) _)) rfl ⟨by rw [HC.out],Below.setCells' (hE1.trans hX) (by omega) _ _⟩
theorem aEg (leaf:UInt64) (n i m:Nat) (A:Option Addr) (c:Nat) (ns:List UInt64) (w:World) (hmx:n≤1000000) (hi:i < n) (hm:m=fP i n) (h:SlN w A m c ns) :
  Calls Tryz.prog 239 #[.agg (nmc leaf),.int .i64 (i:Int),.int .i64 (n:Int),.slice A m c] w fun e w'=>e=.returned (.tuple #[.agg (nmc (dR leaf i n ns)),.bool true])∧Ext w w':=by
 have hrl:=eB ((Blk.new w 30 (nmc leaf)).alloc (.cells zcs.toArray 30))
 have hs:=h.ext (((Ext.refl w).alloc' (.cells (nmc leaf) 30)).alloc' (.cells zcs.toArray 30))
 have HM:=zh hm
 clear hm
 have hq:((m:Int) != (m:Int))=false:=by simp
 go_enter Tryz.func239,Tryz.ntmps239
 go_wp2_with (first | (go_at_call 257;refine (aIo i n _ hi hmx).mono ?_;rintro e w1 ⟨rfl,rfl⟩;rw [← HM.out]) | (refine aT rfl (.tmp 4) rfl w.heap.size 0 rfl leaf hrl ?_))
 refine (aAZ n leaf n i m A c ns _ (Nat.le_refl _) hmx hi HM.out hs).mono ?_
 rintro e w3 ⟨rfl,he3⟩
 have hb0:Blk w3 (w.heap.size+1) 30 zcs.toArray:=(Blk.newAt _ _ _ _ (by simp)).ext he3
 go_wp2_with (with_reducible refine bG rfl _ _ rfl (w.heap.size+1) 0 _ rfl rfl (fN hb0) ?_)
 refine bodyPost_ret (v:=.tuple #[.agg (nmc (dR leaf i n ns)),.bool true]) (aKs rfl _ _ (w.heap.size+1) _ _ rfl rfl (blkN hb0 _)) rfl ⟨rfl,Below.setCells' ((((Ext.refl w).alloc' _).alloc' _).trans he3) (by omega) _ _⟩
theorem iI (w:World) (g:Nat) (hg:w.heap.size=g) (r:UInt64):(storeCells ⟨g,0,none⟩ (nmc r).toList).run Tryz.prog (w.alloc (.cells zcs.toArray 30))=.ok () (w.alloc (.cells (nmc r) 30)):=by
 subst hg
 rw [cC (Blk.new w _ _) r,dO _ _ _ _ (by rw [cU];rfl)]
end
end Go.Proofs.YtohmmcahpakokaaGreat
