/- Rows of elements of whatever type: one text for all. -/
import Derived.Sort.Grow
import Derived.Test.YtohmmcahpakokaaGreatD05
import Derived.Test.YtohmmcahpakokaaGreatD07
set_option maxRecDepth 100000
set_option maxHeartbeats 8000000
set_option linter.unusedVariables false
set_option linter.unusedSimpArgs false
namespace Go.Proofs.YtohmmcahpakokaaGreat
section
open Go.RowKit
class RowT (α:Type) where
 sz:Nat
 z:α
 enc:α→List Value
 ok:α→World→Prop
 pos:0 < sz
 len:∀ x,(enc x).length=sz
 one:∀ x,∀ u ∈ enc x,u.oneCell'=true
 ext:∀ x w w',ok x w→Ext w w'→ok x w'
section
variable {α:Type} [RowT α]
def gcs (L:List α):List Value:=L.flatMap RowT.enc
theorem gcs_nil:gcs ([]:List α)=[]:=rfl
theorem gcs_cons (x:α) (r:List α):gcs (x :: r)=RowT.enc x ++ gcs r:=by simp [gcs]
theorem gcs_one (x:α):gcs [x]=RowT.enc x:=by simp [gcs]
theorem gcs_append (a b:List α):gcs (a ++ b)=gcs a ++ gcs b:=by simp [gcs]
theorem gL (L:List α):(gcs L).length=L.length * RowT.sz α:=by
 induction L with
 | nil=>simp [gcs]
 | cons x r ih=>rw [gcs_cons,List.length_append,RowT.len,ih,List.length_cons,Nat.add_mul,Nat.one_mul,Nat.add_comm]
theorem gcs_cell (L:List α):∀ u ∈ gcs L,u.oneCell'=true:=by
 intro u hu
 simp only [gcs,List.mem_flatMap] at hu
 obtain ⟨x,_,h⟩:=hu
 exact RowT.one x u h
theorem gcs_drop (L:List α) (k:Nat):(gcs L).drop (k * RowT.sz α)=gcs (L.drop k):=by
 induction k generalizing L with
 | zero=>simp
 | succ k ih =>
  cases L with
  | nil=>simp [gcs]
  | cons n r =>
   rw [gcs_cons,List.drop_succ_cons,← ih r,show (k+1) * RowT.sz α=(RowT.enc n).length+k * RowT.sz α from by rw [RowT.len,Nat.add_mul,Nat.one_mul,Nat.add_comm],List.drop_append,List.drop_of_length_le (by omega)]
   simp
theorem gcs_take (L:List α) (k:Nat):(gcs L).take (k * RowT.sz α)=gcs (L.take k):=by
 induction k generalizing L with
 | zero=>simp [gcs]
 | succ k ih =>
  cases L with
  | nil=>simp [gcs]
  | cons n r =>
   rw [gcs_cons,List.take_succ_cons,gcs_cons,← ih r,show (k+1) * RowT.sz α=(RowT.enc n).length+k * RowT.sz α from by rw [RowT.len,Nat.add_mul,Nat.one_mul,Nat.add_comm],List.take_append,List.take_of_length_le (by omega)]
   simp
def nthG (L:List α) (k:Nat):α:=L.getD k (RowT.z)
theorem nthG_eq {L:List α} {k:Nat} (h:k < L.length):L[k]=nthG L k:=by simp [nthG,h]
theorem gcs_at {L:List α} {k:Nat} (h:k < L.length):((gcs L).drop (k * RowT.sz α)).take (RowT.sz α)=RowT.enc (nthG L k):=by
 rw [gcs_drop,List.drop_eq_getElem_cons h,gcs_cons,List.take_append_of_le_length (by rw [RowT.len];omega),List.take_of_length_le (by rw [RowT.len];omega),nthG_eq h]
theorem take_nthG {L:List α} {k:Nat} (h:k < L.length):L.take (k+1)=L.take k ++ [nthG L k]:=by
 rw [List.take_succ_eq_append_getElem h,nthG_eq h]
theorem nthG_mem {L:List α} {k:Nat} (h:k < L.length):nthG L k ∈ L:=by
 rw [← nthG_eq h];exact List.getElem_mem _
structure SlG (w:World) (A:Option Addr) (n c:Nat) (L:List α):Prop where
 len:L.length=n
 le:n≤c
 cap:c≤9223372036854775807
 rd:Rd w A (gcs L)
 ok:∀ R,R ∈ L→RowT.ok R w
variable {w w':World} {A:Option Addr} {n c:Nat} {L:List α}
theorem SlG.ext (h:SlG w A n c L) (e:Ext w w'):SlG w' A n c L:=⟨h.len,h.le,h.cap,h.rd.ext e,fun R hR=>RowT.ext _ _ _ (h.ok R hR) e⟩
theorem SlG.at (h:SlG w A n c L) (hn:0 < n):∃ b o,A=some ⟨b,o,none⟩∧w.rangeAt b o (gcs L)∧b < w.heap.size :=
 h.rd.at (by
  intro e
  have:=congrArg List.length e
  rw [gL,h.len] at this
  have:=Nat.mul_pos hn (RowT.pos (α:=α))
  simp at *;omega)
theorem SlG.nil (w:World):SlG w none 0 0 ([]:List α):=⟨rfl,Nat.le_refl _,Nat.zero_le _,.nil,fun R hR=>by cases hR⟩
theorem SlG.nth (h:SlG w A n c L) {k:Nat} (hk:k < n):RowT.ok (nthG L k) w:=h.ok _ (nthG_mem (by rw [h.len];exact hk))
theorem el_at {b o k:Nat} (h:w.rangeAt b o (gcs L)) (hk:k < L.length):w.rangeAt b (o+k * RowT.sz α) (RowT.enc (nthG L k)):=by
 have h1:=rT (k:=RowT.sz α) (rangeAt_drop (k:=k * RowT.sz α) h)
 rwa [gcs_at hk] at h1
theorem SlG.upto (h:SlG w A n c L) {k c':Nat} (hk:k≤n) (hc:k≤c') (hc':c'≤9223372036854775807):SlG w A k c' (L.take k):=by
 refine ⟨by rw [List.length_take,h.len];omega,hc,hc',?_,fun R hR=>h.ok R (List.mem_of_mem_take hR)⟩
 rw [← gcs_take];exact h.rd.take _
theorem SlG.cut (h:SlG w A n c L) {k:Nat} (hk:k≤n) (hkc:k < c):SlG w (A.map (·.add (k * RowT.sz α))) (n - k) (c - k) (L.drop k):=by
 refine ⟨by rw [List.length_drop,h.len],by have:=h.le;omega,by have:=h.cap;omega,?_,fun R hR=>h.ok R (List.mem_of_mem_drop hR)⟩
 have:=h.rd.cut (n:=n) (k:=k) (c:=c) (size:=RowT.sz α) (by rw [gL,h.len]) hk h.le
 rwa [if_neg (by omega),gcs_drop] at this
def OwnG (w:World) (base:Nat) (e:TypeId) (A:Option Addr) (n c:Nat) (L:List α):Prop:=w.ownsRow base e (RowT.sz α) (.slice A n c) n (gcs L)
section
variable {base:Nat} {e:TypeId}
theorem OwnG.len (h:OwnG w base e A n c L):L.length=n:=by
 have:=h.1;rw [gL] at this;exact Nat.eq_of_mul_eq_mul_right RowT.pos this
theorem OwnG.sl (h:OwnG w base e A n c L) (ok:∀ R,R ∈ L→RowT.ok R w):SlG w A n c L:=by
 obtain ⟨h1,h2⟩:=own_cap h
 exact ⟨h.len,h1,h2,Rd.of_own h,ok⟩
theorem OwnG.nil (w:World) (base:Nat) (e:TypeId):OwnG w base e none 0 0 ([]:List α):=World.ownsRow_nil w base e _
theorem OwnG.ext (h:OwnG w base e A n c L) (he:Ext w w'):OwnG w' base e A n c L:=own_ext h he
theorem OwnG.mono {base':Nat} (h:OwnG w base e A n c L) (hb:base'≤base):OwnG w base' e A n c L:=own_mono h hb
end
theorem rows_G {sz:Nat} (hsz:RowT.sz α=sz) {b o:Nat}:∀ (n:Nat),(∀ j,j < n→∃ y:α,w.rangeAt b (o+j * sz) (RowT.enc y)∧RowT.ok y w)→∃ L:List α,L.length=n∧w.rangeAt b o (gcs L)∧∀ R,R ∈ L→RowT.ok R w:=by
 intro n
 subst hsz
 induction n with
 | zero=>intro _;exact ⟨[],rfl,fun j v hv=>by simp [gcs] at hv,fun R hR=>by cases hR⟩
 | succ n ih =>
  intro h
  obtain ⟨L,hL,hr,hok⟩:=ih (fun j hj=>h j (by omega))
  obtain ⟨y,hy,hyo⟩:=h n (by omega)
  refine ⟨L ++ [y],by simp [hL],?_,?_⟩
  ·rw [gcs_append, gcs_one]
   refine rangeAt_append hr ?_
   rw [gL,hL];exact hy
  intro R hR
  rcases List.mem_append.1 hR with hR | hR
  ·exact hok R hR
  rw [List.mem_singleton.1 hR];exact hyo
end
def Grw (w w':World):Prop:=Ext w w'∧w.drawn≤w'.drawn
theorem Grw.refl (w:World):Grw w w:=⟨Ext.refl w,Nat.le_refl _⟩
theorem Grw.ext {w w':World} (h:Grw w w'):Ext w w':=h.1
theorem Grw.trans {a b c:World} (h:Grw a b) (k:Grw b c):Grw a c:=⟨h.1.trans k.1,Nat.le_trans h.2 k.2⟩
theorem Grw.drew {a b:World} (h:Grw a b):Grw a b.drew:=⟨h.1.drew',by have:=h.2;show a.drawn≤b.drawn+1;omega⟩
theorem Grw.drewN {a b:World} (h:Grw a b) (n:Nat):Grw a (b.drewN n):=⟨⟨h.1.os,h.1.tape,h.1.output,h.1.size,h.1.block⟩,by have:=h.2;show a.drawn≤b.drawn+n;omega⟩
theorem Grw.alloc {a b:World} (h:Grw a b) (o:Obj):Grw a (b.alloc o):=⟨h.1.alloc' o,h.2⟩
theorem Grw.set {a b:World} (h:Grw a b) {p:Addr} (hp:a.heap.size≤p.block) (u:Value):Grw a (b.setCell p u):=⟨h.1.setCell hp u,h.2⟩
theorem Grw.grow {a b:World} (h:Grw a b):∃ q os,b=Sort.grow (a.drewN q) os:=by
 obtain ⟨⟨h1,h2,h3,h4,h5⟩,h6⟩:=h
 refine ⟨b.drawn - a.drawn,b.heap.extract a.heap.size b.heap.size,?_⟩
 obtain ⟨bh,bt,bd,bo,bu⟩:=b
 obtain ⟨ah,at',ad,ao,au⟩:=a
 simp only at h1 h2 h3 h4 h5 h6
 subst h1;subst h2;subst h3
 simp only [Sort.grow,World.drewN,World.mk.injEq,true_and,and_true]
 refine ⟨?_,by omega⟩
 apply Array.ext_getElem?
 intro i
 by_cases hi:i < ah.size
 ·rw [Array.getElem?_append_left hi,h5 i hi]
 rw [Array.getElem?_append_right (by omega)]
 simp [Array.getElem?_extract]
 by_cases hb:i < bh.size
 ·rw [if_pos (by omega),show ah.size+(i - ah.size)=i from by omega]
 rw [if_neg (by omega)];simp;omega
end
section
open Go.RowKit
attribute [local go_sem ↓] Go.wp_at_zero Go.wp_at_succ
structure VtR where
 k:Int
 sl:Int
 ro:Int
 ch:Int
 si:Int
 su:Int
 pa:UInt64
 va:UInt64
deriving DecidableEq
def wfI (z:Int):Prop:=(Lit.int .i64 z).wf=true
structure VtR.wf (v:VtR):Prop where
 k:wfI v.k
 sl:wfI v.sl
 ro:wfI v.ro
 ch:wfI v.ch
 si:wfI v.si
 su:wfI v.su
abbrev vtA (v:VtR):Array Value:=#[.int .i64 v.k,.int .i64 v.sl,.int .i64 v.ro,.int .i64 v.ch,.int .i64 v.si,.int .i64 v.su,.int .u8 (nb8 v.pa 0),.int .u8 (nb8 v.pa 1),.int .u8 (nb8 v.pa 2),.int .u8 (nb8 v.pa 3),.int .u8 (nb8 v.pa 4),.int .u8 (nb8 v.pa 5),.int .u8 (nb8 v.pa 6),.int .u8 (nb8 v.pa 7),.int .u8 (nb8 v.va 0),.int .u8 (nb8 v.va 1),.int .u8 (nb8 v.va 2),.int .u8 (nb8 v.va 3),.int .u8 (nb8 v.va 4),.int .u8 (nb8 v.va 5),.int .u8 (nb8 v.va 6),.int .u8 (nb8 v.va 7)]
def vtL (v:VtR):List Value:=(vtA v).toList
theorem vtL_length (v:VtR):(vtL v).length=22:=rfl
theorem vtL_arr (v:VtR):(vtL v).toArray=vtA v:=rfl
theorem vtL_one (v:VtR):∀ u ∈ vtL v,u.oneCell'=true:=by
 intro u hu
 simp only [vtL,List.mem_cons,List.not_mem_nil,or_false] at hu
 rcases hu with rfl | rfl | rfl | rfl | rfl | rfl | rfl | rfl | rfl | rfl | rfl | rfl | rfl | rfl | rfl | rfl | rfl | rfl | rfl | rfl | rfl | rfl <;> rfl
theorem vtA_all (v:VtR):(vtA v).all (·.oneCell')=true:=all_oneCell_toArray (vtL_one v)
instance:RowT VtR where
 sz:=22
 z:=⟨0,0,0,0,0,0,0,0⟩
 enc:=vtL
 ok v w:=v.wf
 pos:=by decide
 len:=vtL_length
 one:=vtL_one
 ext _ _ _ h _:=h
structure SgR where
 v:VtR
 A:Option Addr
 n:Nat
 c:Nat
 sig:List UInt8
abbrev sgA (S:SgR):Array Value:=#[.int .i64 S.v.k,.int .i64 S.v.sl,.int .i64 S.v.ro,.int .i64 S.v.ch,.int .i64 S.v.si,.int .i64 S.v.su,.int .u8 (nb8 S.v.pa 0),.int .u8 (nb8 S.v.pa 1),.int .u8 (nb8 S.v.pa 2),.int .u8 (nb8 S.v.pa 3),.int .u8 (nb8 S.v.pa 4),.int .u8 (nb8 S.v.pa 5),.int .u8 (nb8 S.v.pa 6),.int .u8 (nb8 S.v.pa 7),.int .u8 (nb8 S.v.va 0),.int .u8 (nb8 S.v.va 1),.int .u8 (nb8 S.v.va 2),.int .u8 (nb8 S.v.va 3),.int .u8 (nb8 S.v.va 4),.int .u8 (nb8 S.v.va 5),.int .u8 (nb8 S.v.va 6),.int .u8 (nb8 S.v.va 7),.slice S.A S.n S.c]
def sgL (S:SgR):List Value:=(sgA S).toList
theorem sgL_length (S:SgR):(sgL S).length=23:=rfl
theorem sgL_one (v:SgR):∀ u ∈ sgL v,u.oneCell'=true:=by
 intro u hu
 simp only [sgL,List.mem_cons,List.not_mem_nil,or_false] at hu
 rcases hu with rfl | rfl | rfl | rfl | rfl | rfl | rfl | rfl | rfl | rfl | rfl | rfl | rfl | rfl | rfl | rfl | rfl | rfl | rfl | rfl | rfl | rfl | rfl <;> rfl
theorem sgA_all (v:SgR):(sgA v).all (·.oneCell')=true:=all_oneCell_toArray (sgL_one v)
structure SgR.ok (S:SgR) (w:World):Prop where
 v:S.v.wf
 sig:SlB w S.A S.n S.c S.sig
theorem SgR.ok.ext {S:SgR} {w w':World} (h:S.ok w) (e:Ext w w'):S.ok w':=⟨h.v,h.sig.ext e⟩
instance:RowT SgR where
 sz:=23
 z:=⟨⟨0,0,0,0,0,0,0,0⟩,none,0,0,[]⟩
 enc:=sgL
 ok S w:=S.ok w
 pos:=by decide
 len:=sgL_length
 one:=sgL_one
 ext _ _ _ h e:=h.ext e
section
variable {o:Oper} {a:Act} {w:World} {ops:Array Oper} {rest:List Oper} {Q:Exit→Act→World→Prop}
theorem wpList_loadVt (hgd:o.guard=none) (x:Operand) (ho:o.op=.load 134 x) (b of:Nat) (hx:a.eval x=.pointer (some ⟨b,of,none⟩)) (R:VtR) (hc:w.rangeAt b of (vtL R))
  (h:wpList Tryz.prog ops Q rest (a.put o.dst (.agg (vtA R))) w):wpList Tryz.prog ops Q (o :: rest) a w:=by
 have:=wpList_load_mid (P:=Tryz.prog) (Q:=Q) (ops:=ops) (rest:=rest) hgd 134 x ho b of hx (vtL R) _ hc Tryz.underlying134 rfl (by rw [vtL_length];kernel_rfl)
 rw [vtL_arr] at this
 exact this h
theorem wpList_newVt (hgd:o.guard=none) (x y:Operand) (ho:o.op=.store 134 x y) (cs:Array Value) (hcs:cs.size=22) (R:VtR) (hx:a.eval x=.pointer (some ⟨w.heap.size,0,none⟩)) (hy:a.eval y=.agg (vtA R))
  (h:wpList Tryz.prog ops Q rest (a.put o.dst undef) (w.alloc (.cells (vtA R) 134))):wpList Tryz.prog ops Q (o :: rest) a (w.alloc (.cells cs 134)):=by
 have ht:=tB (Blk.new w 134 cs)
 rw [hcs] at ht
 refine wpList_store_mid hgd 134 x y ho w.heap.size 0 (vtA R) hx hy ht (by kernel_rfl) (vtA_all R) ?_
 rw [setCells_whole w 134 cs (vtA R) (by rw [hcs];rfl)]
 exact h
end
theorem wfI_key (x:Int) (hx:wfI x):Tryz.prog.keyLits 2 3 [.int .i64 x]=some [.int .i64 x]:=by
 unfold Program.keyLits
 rw [Tryz.underlying3]
 simp only
 rw [if_pos ⟨trivial,hx⟩]
theorem wfI_mask (x:Int) (hx:wfI x):Tryz.prog.keyLits 2 42 [.int .i64 x]=some [.int .i64 x]:=by
 unfold Program.keyLits
 rw [Tryz.underlying42]
 simp only
 rw [if_pos ⟨trivial,hx⟩]
def vtK (v:VtR):List Lit:=[.int .i64 v.k,.int .i64 v.sl,.int .i64 v.ro,.int .i64 v.ch,.int .i64 v.si,.int .i64 v.su] ++ ((nmb v.pa).map litB ++ (nmb v.va).map litB)
def vtC (v:VtR):List Value:=[.int .i64 v.k,.int .i64 v.sl,.int .i64 v.ro,.int .i64 v.ch,.int .i64 v.si,.int .i64 v.su] ++ (bcs (nmb v.pa) ++ bcs (nmb v.va))
theorem vtL_C (v:VtR):vtL v=vtC v:=by unfold vtC;rw [bcs_nb8,bcs_nb8];rfl
theorem vtK_inj {a b:VtR} (h:vtK a=vtK b):a=b:=by
 unfold vtK at h
 simp only [List.cons_append,List.nil_append,List.cons.injEq,Lit.int.injEq,true_and] at h
 obtain ⟨h1,h2,h3,h4,h5,h6,h7⟩:=h
 have h8:=List.append_inj h7 (by simp [nL])
 have h9:=litB_inj h8.1
 have h10:=litB_inj h8.2
 cases a;cases b
 simp only at *
 subst h1;subst h2;subst h3;subst h4;subst h5;subst h6;subst h9;subst h10
 rfl
theorem keyVt (v:VtR) (h:v.wf):Tryz.prog.keyLits 3 134 (vtC v)=some (vtK v):=by
 obtain ⟨h1,h2,h3,h4,h5,h6⟩:=h
 have c1:Tryz.prog.cellsOf 3=1:=by kernel_rfl
 have cm:Tryz.prog.cellsOf 42=1:=by kernel_rfl
 have c22:Tryz.prog.cellsOf 134=22:=by kernel_rfl
 have hp:(bcs (nmb v.pa)).length=8:=by rw [bL,nL]
 have hv:(bcs (nmb v.va)).length=8:=by rw [bL,nL]
 have t8:(bcs (nmb v.pa) ++ bcs (nmb v.va)).take 8=bcs (nmb v.pa):=by rw [← hp];exact List.take_left
 have d8:(bcs (nmb v.pa) ++ bcs (nmb v.va)).drop 8=bcs (nmb v.va):=by rw [← hp];exact List.drop_left
 have t8':(bcs (nmb v.va)).take 8=bcs (nmb v.va):=List.take_of_length_le (by omega)
 have hl:(vtC v).length=22:=by unfold vtC;rw [List.length_append,List.length_append,hp,hv];rfl
 unfold Program.keyLits
 rw [Tryz.underlying134]
 simp only
 rw [if_pos ⟨by rw [hl,c22],by kernel_rfl⟩]
 simp only [List.mapM_cons,List.mapM_nil,c1,cm,cellsN,vtC,List.cons_append,List.nil_append,List.drop_zero,List.drop_succ_cons,List.take_succ_cons,List.take_zero,wfI_key _ h1,wfI_key _ h2,wfI_key _ h3,wfI_key _ h4,wfI_key _ h5,wfI_mask _ h6,t8,d8,t8',keyName]
 simp [vtK]
theorem eqIn_Vt (a b:VtR) (ha:a.wf) (hb:b.wf) (w:World):(Op.equalIn 10000 134 (.agg (vtA a)) (.agg (vtA b))).run Tryz.prog w=.ok (decide (a=b)) w:=by
 have hE:=run_equalIn_deep (P:=Tryz.prog) 9997 3 134 (by kernel_rfl)
 have hfm:∀ v:VtR,(Value.agg (vtA v)).formed Tryz.prog 134=true:=fun v=>by
  have c22:Tryz.prog.cellsOf 134=22:=by kernel_rfl
  simp [Value.formed,Tryz.underlying134,c22]
 have hk:∀ v:VtR,v.wf→Tryz.prog.keyLits 3 134 (Value.agg (vtA v)).cells.toList=some (vtK v):=fun v h=>by
  show Tryz.prog.keyLits 3 _ (vtL v)=_
  rw [vtL_C];exact keyVt v h
 obtain ⟨r,hr,hiff⟩:=hE w 3 3 _ _ _ _ (hfm a) (hfm b) (hk a ha) (hk b hb)
 have hr':(Op.equalIn 10000 134 (.agg (vtA a)) (.agg (vtA b))).run Tryz.prog w=.ok r w:=hr
 rw [hr']
 have:r=decide (a=b):=by
  by_cases h:a=b
  ·subst h;simp [hiff.2 rfl]
  have:r ≠ true:=fun e=>h (vtK_inj (hiff.1 e))
  simp [h,this]
 rw [this]
theorem run_eqVt (a b:VtR) (ha:a.wf) (hb:b.wf) (w:World):(binOp .eql 134 (.agg (vtA a)) (.agg (vtA b))).run Tryz.prog w=.ok (.bool (decide (a=b))) w:=by
 rw [run_eql_struct,eqIn_Vt a b ha hb w]
 rfl
theorem vOp_no {R:OpR} (h:¬ (1≤R.k∧R.k≤6)):vOp R=false:=by unfold vOp;rw [decide_eq_false h,Bool.false_and]
theorem nmc_zero_lit:nmc 0=#[.int .u8 0,.int .u8 0,.int .u8 0,.int .u8 0,.int .u8 0,.int .u8 0,.int .u8 0,.int .u8 0]:=zcs_nmc.symm
theorem row_cases8 (b1 b2 b3 b4 b5 b6 b7 b8:Bool):b1=false ∨ (b1=true∧b2=false) ∨ (b1=true∧b2=true∧b3=false) ∨ (b1=true∧b2=true∧b3=true∧b4=false) ∨ (b1=true∧b2=true∧b3=true∧b4=true∧b5=false) ∨ (b1=true∧b2=true∧b3=true∧b4=true∧b5=true∧b6=false) ∨ (b1=true∧b2=true∧b3=true∧b4=true∧b5=true∧b6=true∧b7=false) ∨ (b1=true∧b2=true∧b3=true∧b4=true∧b5=true∧b6=true∧b7=true∧b8=false) ∨ (b1=true∧b2=true∧b3=true∧b4=true∧b5=true∧b6=true∧b7=true∧b8=true):=by
 cases b1 <;> simp
 cases b2 <;> simp
 cases b3 <;> simp
 cases b4 <;> simp
 cases b5 <;> simp
 cases b6 <;> simp
 cases b7 <;> simp
theorem validOp_no (R:OpR) (h:¬ (1≤R.k∧R.k≤6)) (w:World) :
  Calls Tryz.prog 81 #[.agg (opA R)] w fun e w'=>e=.returned (.bool false)∧Ext w w':=by
 have HU:=zh (fun W=>uses_any R.k W)
 rw [usesK_no h] at HU
 have HE:=zh ((Ext.refl w).alloc' (.cells (opA R) 69))
 clear h
 go_enter Tryz.func81,Tryz.ntmps81
 simp only [lapp_cons,lapp_nil]
 go_wp2_with (go_at_call 141;(with_reducible refine (HU.out _).mono ?_);rintro e wv ⟨rfl,rfl⟩)
 go_ret
 exact ⟨rfl,HE.out⟩
theorem validOp_1 (R:OpR) (h:R.k=1) (w:World) (hR:R.ok w) :
  Calls Tryz.prog 81 #[.agg (opA R)] w fun e w'=>e=.returned (.bool (vOp R))∧Ext w w':=by
 have HU:=zh (fun W=>uses_any R.k W)
 rw [show usesK R.k=5 from by rw [h];decide] at HU
 have l1:(R.n1:Int)≤9223372036854775807:=by have:=hR.pre.le;have:=hR.pre.cap;omega
 have l2:(R.n2:Int)≤9223372036854775807:=by have:=hR.prf.le;have:=hR.prf.cap;omega
 obtain ⟨b1,e1⟩:∃ b,numU true R.tO 0 15=b:=⟨_,rfl⟩
 have H1:=zh (fun W=>tQ true R.tO 0 15 W)
 rw [e1] at H1
 obtain ⟨b2,e2⟩:∃ b,numU true R.am 1 1099511627776=b:=⟨_,rfl⟩
 have H2:=zh (fun W=>tQ true R.am 1 1099511627776 W)
 rw [e2] at H2
 obtain ⟨b3,e3⟩:∃ b,numU false R.ul 1 1000=b:=⟨_,rfl⟩
 have H3:=zh (fun W=>tQ false R.ul 1 1000 W)
 rw [e3] at H3
 obtain ⟨b4,e4⟩:∃ b,numU false R.va 0 9=b:=⟨_,rfl⟩
 have H4:=zh (fun W=>tQ false R.va 0 9 W)
 rw [e4] at H4
 obtain ⟨b5,e5⟩:∃ b,numU false (R.n1:Int) 0 32=b:=⟨_,rfl⟩
 have H5:=zh (fun W=>tQ false (R.n1:Int) 0 32 W)
 rw [e5] at H5
 obtain ⟨b6,e6⟩:∃ b,numU false (R.n2:Int) 1 2000=b:=⟨_,rfl⟩
 have H6:=zh (fun W=>tQ false (R.n2:Int) 1 2000 W)
 rw [e6] at H6
 have E7:=zh (fun W=>run_eqN R.hs 0 W)
 have E8:=zh (fun W=>run_eqN R.lk 0 W)
 obtain ⟨b7,e7⟩:∃ b,decide (R.hs=0)=b:=⟨_,rfl⟩
 obtain ⟨b8,e8⟩:∃ b,decide (R.lk=0)=b:=⟨_,rfl⟩
 have HV:=zh (show vOp R=(b1 && (b2 && (b3 && (b4 && (b5 && (b6 && (b7 && b8))))))) by
  rw [← e1,← e2,← e3,← e4,← e5,← e6,← e7,← e8];unfold vOp;rw [h];rfl)
 rw [e7] at E7
 rw [e8] at E8
 have q7:=E7.out
 have q8:=E8.out
 rw [nmc_zero_lit] at q7 q8
 have HE:=zh ((Ext.refl w).alloc' (.cells (opA R) 69))
 have hc:=row_cases8 b1 b2 b3 b4 b5 b6 b7 b8
 clear hR h e1 e2 e3 e4 e5 e6 E7 E8
 rcases hc with rfl | ⟨rfl,rfl⟩ | ⟨rfl,rfl,rfl⟩ | ⟨rfl,rfl,rfl,rfl⟩ | ⟨rfl,rfl,rfl,rfl,rfl⟩ | ⟨rfl,rfl,rfl,rfl,rfl,rfl⟩ | ⟨rfl,rfl,rfl,rfl,rfl,rfl,rfl⟩ | ⟨rfl,rfl,rfl,rfl,rfl,rfl,rfl,rfl⟩ | ⟨rfl,rfl,rfl,rfl,rfl,rfl,rfl,rfl⟩
 all_goals first
  | (exfalso;first | exact absurd e7 (by decide) | exact absurd e8 (by decide))
  | (
   clear e7 e8
   go_enter Tryz.func81,Tryz.ntmps81
   simp only [lapp_cons,lapp_nil]
   go_wp2_with (first | (go_at_call 141;(with_reducible refine (HU.out _).mono ?_);rintro e wv ⟨rfl,rfl⟩) | (go_at_call 142;(first | (with_reducible refine (H1.out _).mono ?_) | (with_reducible refine (H2.out _).mono ?_) | (with_reducible refine (H3.out _).mono ?_) | (with_reducible refine (H4.out _).mono ?_) | (with_reducible refine (H5.out _).mono ?_) | (with_reducible refine (H6.out _).mono ?_));rintro e wv ⟨rfl,rfl⟩))
   go_ret
   exact ⟨by rw [HV.out];rfl,HE.out⟩)
theorem validOp_2 (R:OpR) (h:R.k=2) (w:World) (hR:R.ok w) :
  Calls Tryz.prog 81 #[.agg (opA R)] w fun e w'=>e=.returned (.bool (vOp R))∧Ext w w':=by
 have HU:=zh (fun W=>uses_any R.k W)
 rw [show usesK R.k=29 from by rw [h];decide] at HU
 have l1:(R.n1:Int)≤9223372036854775807:=by have:=hR.pre.le;have:=hR.pre.cap;omega
 have l2:(R.n2:Int)≤9223372036854775807:=by have:=hR.prf.le;have:=hR.prf.cap;omega
 obtain ⟨b1,e1⟩:∃ b,numU true R.tO 0 15=b:=⟨_,rfl⟩
 have H1:=zh (fun W=>tQ true R.tO 0 15 W)
 rw [e1] at H1
 obtain ⟨b2,e2⟩:∃ b,numU true R.am 1 1099511627776=b:=⟨_,rfl⟩
 have H2:=zh (fun W=>tQ true R.am 1 1099511627776 W)
 rw [e2] at H2
 obtain ⟨b3,e3⟩:∃ b,numU true R.ul 1 1000=b:=⟨_,rfl⟩
 have H3:=zh (fun W=>tQ true R.ul 1 1000 W)
 rw [e3] at H3
 obtain ⟨b4,e4⟩:∃ b,numU false R.va 0 9=b:=⟨_,rfl⟩
 have H4:=zh (fun W=>tQ false R.va 0 9 W)
 rw [e4] at H4
 obtain ⟨b5,e5⟩:∃ b,numU false (R.n1:Int) 0 32=b:=⟨_,rfl⟩
 have H5:=zh (fun W=>tQ false (R.n1:Int) 0 32 W)
 rw [e5] at H5
 obtain ⟨b6,e6⟩:∃ b,numU false (R.n2:Int) 1 2000=b:=⟨_,rfl⟩
 have H6:=zh (fun W=>tQ false (R.n2:Int) 1 2000 W)
 rw [e6] at H6
 have E7:=zh (fun W=>run_eqN R.hs 0 W)
 have E8:=zh (fun W=>run_eqN R.lk 0 W)
 obtain ⟨b7,e7⟩:∃ b,true=b:=⟨_,rfl⟩
 obtain ⟨b8,e8⟩:∃ b,decide (R.lk=0)=b:=⟨_,rfl⟩
 have HV:=zh (show vOp R=(b1 && (b2 && (b3 && (b4 && (b5 && (b6 && (b7 && b8))))))) by
  rw [← e1,← e2,← e3,← e4,← e5,← e6,← e7,← e8];unfold vOp;rw [h];rfl)
 rw [e8] at E8
 have q7:=E7.out
 have q8:=E8.out
 rw [nmc_zero_lit] at q7 q8
 have HE:=zh ((Ext.refl w).alloc' (.cells (opA R) 69))
 have hc:=row_cases8 b1 b2 b3 b4 b5 b6 b7 b8
 clear hR h e1 e2 e3 e4 e5 e6 E7 E8
 rcases hc with rfl | ⟨rfl,rfl⟩ | ⟨rfl,rfl,rfl⟩ | ⟨rfl,rfl,rfl,rfl⟩ | ⟨rfl,rfl,rfl,rfl,rfl⟩ | ⟨rfl,rfl,rfl,rfl,rfl,rfl⟩ | ⟨rfl,rfl,rfl,rfl,rfl,rfl,rfl⟩ | ⟨rfl,rfl,rfl,rfl,rfl,rfl,rfl,rfl⟩ | ⟨rfl,rfl,rfl,rfl,rfl,rfl,rfl,rfl⟩
 all_goals first
  | (exfalso;first | exact absurd e7 (by decide) | exact absurd e8 (by decide))
  | (
   clear e7 e8
   go_enter Tryz.func81,Tryz.ntmps81
   simp only [lapp_cons,lapp_nil]
   go_wp2_with (first | (go_at_call 141;(with_reducible refine (HU.out _).mono ?_);rintro e wv ⟨rfl,rfl⟩) | (go_at_call 142;(first | (with_reducible refine (H1.out _).mono ?_) | (with_reducible refine (H2.out _).mono ?_) | (with_reducible refine (H3.out _).mono ?_) | (with_reducible refine (H4.out _).mono ?_) | (with_reducible refine (H5.out _).mono ?_) | (with_reducible refine (H6.out _).mono ?_));rintro e wv ⟨rfl,rfl⟩))
   go_ret
   exact ⟨by rw [HV.out];rfl,HE.out⟩)
theorem validOp_3 (R:OpR) (h:R.k=3) (w:World) (hR:R.ok w) :
  Calls Tryz.prog 81 #[.agg (opA R)] w fun e w'=>e=.returned (.bool (vOp R))∧Ext w w':=by
 have HU:=zh (fun W=>uses_any R.k W)
 rw [show usesK R.k=101 from by rw [h];decide] at HU
 have l1:(R.n1:Int)≤9223372036854775807:=by have:=hR.pre.le;have:=hR.pre.cap;omega
 have l2:(R.n2:Int)≤9223372036854775807:=by have:=hR.prf.le;have:=hR.prf.cap;omega
 obtain ⟨b1,e1⟩:∃ b,numU true R.tO 0 15=b:=⟨_,rfl⟩
 have H1:=zh (fun W=>tQ true R.tO 0 15 W)
 rw [e1] at H1
 obtain ⟨b2,e2⟩:∃ b,numU true R.am 1 1099511627776=b:=⟨_,rfl⟩
 have H2:=zh (fun W=>tQ true R.am 1 1099511627776 W)
 rw [e2] at H2
 obtain ⟨b3,e3⟩:∃ b,numU false R.ul 1 1000=b:=⟨_,rfl⟩
 have H3:=zh (fun W=>tQ false R.ul 1 1000 W)
 rw [e3] at H3
 obtain ⟨b4,e4⟩:∃ b,numU false R.va 0 9=b:=⟨_,rfl⟩
 have H4:=zh (fun W=>tQ false R.va 0 9 W)
 rw [e4] at H4
 obtain ⟨b5,e5⟩:∃ b,numU true (R.n1:Int) 0 32=b:=⟨_,rfl⟩
 have H5:=zh (fun W=>tQ true (R.n1:Int) 0 32 W)
 rw [e5] at H5
 obtain ⟨b6,e6⟩:∃ b,numU false (R.n2:Int) 1 2000=b:=⟨_,rfl⟩
 have H6:=zh (fun W=>tQ false (R.n2:Int) 1 2000 W)
 rw [e6] at H6
 have E7:=zh (fun W=>run_eqN R.hs 0 W)
 have E8:=zh (fun W=>run_eqN R.lk 0 W)
 obtain ⟨b7,e7⟩:∃ b,decide (R.hs=0)=b:=⟨_,rfl⟩
 obtain ⟨b8,e8⟩:∃ b,true=b:=⟨_,rfl⟩
 have HV:=zh (show vOp R=(b1 && (b2 && (b3 && (b4 && (b5 && (b6 && (b7 && b8))))))) by
  rw [← e1,← e2,← e3,← e4,← e5,← e6,← e7,← e8];unfold vOp;rw [h];rfl)
 rw [e7] at E7
 have q7:=E7.out
 have q8:=E8.out
 rw [nmc_zero_lit] at q7 q8
 have HE:=zh ((Ext.refl w).alloc' (.cells (opA R) 69))
 have hc:=row_cases8 b1 b2 b3 b4 b5 b6 b7 b8
 clear hR h e1 e2 e3 e4 e5 e6 E7 E8
 rcases hc with rfl | ⟨rfl,rfl⟩ | ⟨rfl,rfl,rfl⟩ | ⟨rfl,rfl,rfl,rfl⟩ | ⟨rfl,rfl,rfl,rfl,rfl⟩ | ⟨rfl,rfl,rfl,rfl,rfl,rfl⟩ | ⟨rfl,rfl,rfl,rfl,rfl,rfl,rfl⟩ | ⟨rfl,rfl,rfl,rfl,rfl,rfl,rfl,rfl⟩ | ⟨rfl,rfl,rfl,rfl,rfl,rfl,rfl,rfl⟩
 all_goals first
  | (exfalso;first | exact absurd e7 (by decide) | exact absurd e8 (by decide))
  | (
   clear e7 e8
   go_enter Tryz.func81,Tryz.ntmps81
   simp only [lapp_cons,lapp_nil]
   go_wp2_with (first | (go_at_call 141;(with_reducible refine (HU.out _).mono ?_);rintro e wv ⟨rfl,rfl⟩) | (go_at_call 142;(first | (with_reducible refine (H1.out _).mono ?_) | (with_reducible refine (H2.out _).mono ?_) | (with_reducible refine (H3.out _).mono ?_) | (with_reducible refine (H4.out _).mono ?_) | (with_reducible refine (H5.out _).mono ?_) | (with_reducible refine (H6.out _).mono ?_));rintro e wv ⟨rfl,rfl⟩))
   go_ret
   exact ⟨by rw [HV.out];rfl,HE.out⟩)
theorem validOp_4 (R:OpR) (h:R.k=4) (w:World) (hR:R.ok w) :
  Calls Tryz.prog 81 #[.agg (opA R)] w fun e w'=>e=.returned (.bool (vOp R))∧Ext w w':=by
 have HU:=zh (fun W=>uses_any R.k W)
 rw [show usesK R.k=37 from by rw [h];decide] at HU
 have l1:(R.n1:Int)≤9223372036854775807:=by have:=hR.pre.le;have:=hR.pre.cap;omega
 have l2:(R.n2:Int)≤9223372036854775807:=by have:=hR.prf.le;have:=hR.prf.cap;omega
 obtain ⟨b1,e1⟩:∃ b,numU true R.tO 0 15=b:=⟨_,rfl⟩
 have H1:=zh (fun W=>tQ true R.tO 0 15 W)
 rw [e1] at H1
 obtain ⟨b2,e2⟩:∃ b,numU true R.am 1 1099511627776=b:=⟨_,rfl⟩
 have H2:=zh (fun W=>tQ true R.am 1 1099511627776 W)
 rw [e2] at H2
 obtain ⟨b3,e3⟩:∃ b,numU false R.ul 1 1000=b:=⟨_,rfl⟩
 have H3:=zh (fun W=>tQ false R.ul 1 1000 W)
 rw [e3] at H3
 obtain ⟨b4,e4⟩:∃ b,numU false R.va 0 9=b:=⟨_,rfl⟩
 have H4:=zh (fun W=>tQ false R.va 0 9 W)
 rw [e4] at H4
 obtain ⟨b5,e5⟩:∃ b,numU false (R.n1:Int) 0 32=b:=⟨_,rfl⟩
 have H5:=zh (fun W=>tQ false (R.n1:Int) 0 32 W)
 rw [e5] at H5
 obtain ⟨b6,e6⟩:∃ b,numU false (R.n2:Int) 1 2000=b:=⟨_,rfl⟩
 have H6:=zh (fun W=>tQ false (R.n2:Int) 1 2000 W)
 rw [e6] at H6
 have E7:=zh (fun W=>run_eqN R.hs 0 W)
 have E8:=zh (fun W=>run_eqN R.lk 0 W)
 obtain ⟨b7,e7⟩:∃ b,decide (R.hs=0)=b:=⟨_,rfl⟩
 obtain ⟨b8,e8⟩:∃ b,true=b:=⟨_,rfl⟩
 have HV:=zh (show vOp R=(b1 && (b2 && (b3 && (b4 && (b5 && (b6 && (b7 && b8))))))) by
  rw [← e1,← e2,← e3,← e4,← e5,← e6,← e7,← e8];unfold vOp;rw [h];rfl)
 rw [e7] at E7
 have q7:=E7.out
 have q8:=E8.out
 rw [nmc_zero_lit] at q7 q8
 have HE:=zh ((Ext.refl w).alloc' (.cells (opA R) 69))
 have hc:=row_cases8 b1 b2 b3 b4 b5 b6 b7 b8
 clear hR h e1 e2 e3 e4 e5 e6 E7 E8
 rcases hc with rfl | ⟨rfl,rfl⟩ | ⟨rfl,rfl,rfl⟩ | ⟨rfl,rfl,rfl,rfl⟩ | ⟨rfl,rfl,rfl,rfl,rfl⟩ | ⟨rfl,rfl,rfl,rfl,rfl,rfl⟩ | ⟨rfl,rfl,rfl,rfl,rfl,rfl,rfl⟩ | ⟨rfl,rfl,rfl,rfl,rfl,rfl,rfl,rfl⟩ | ⟨rfl,rfl,rfl,rfl,rfl,rfl,rfl,rfl⟩
 all_goals first
  | (exfalso;first | exact absurd e7 (by decide) | exact absurd e8 (by decide))
  | (
   clear e7 e8
   go_enter Tryz.func81,Tryz.ntmps81
   simp only [lapp_cons,lapp_nil]
   go_wp2_with (first | (go_at_call 141;(with_reducible refine (HU.out _).mono ?_);rintro e wv ⟨rfl,rfl⟩) | (go_at_call 142;(first | (with_reducible refine (H1.out _).mono ?_) | (with_reducible refine (H2.out _).mono ?_) | (with_reducible refine (H3.out _).mono ?_) | (with_reducible refine (H4.out _).mono ?_) | (with_reducible refine (H5.out _).mono ?_) | (with_reducible refine (H6.out _).mono ?_));rintro e wv ⟨rfl,rfl⟩))
   go_ret
   exact ⟨by rw [HV.out];rfl,HE.out⟩)
theorem validOp_5 (R:OpR) (h:R.k=5) (w:World) (hR:R.ok w) :
  Calls Tryz.prog 81 #[.agg (opA R)] w fun e w'=>e=.returned (.bool (vOp R))∧Ext w w':=by
 have HU:=zh (fun W=>uses_any R.k W)
 rw [show usesK R.k=6 from by rw [h];decide] at HU
 have l1:(R.n1:Int)≤9223372036854775807:=by have:=hR.pre.le;have:=hR.pre.cap;omega
 have l2:(R.n2:Int)≤9223372036854775807:=by have:=hR.prf.le;have:=hR.prf.cap;omega
 obtain ⟨b1,e1⟩:∃ b,numU false R.tO 0 15=b:=⟨_,rfl⟩
 have H1:=zh (fun W=>tQ false R.tO 0 15 W)
 rw [e1] at H1
 obtain ⟨b2,e2⟩:∃ b,numU true R.am 1 1099511627776=b:=⟨_,rfl⟩
 have H2:=zh (fun W=>tQ true R.am 1 1099511627776 W)
 rw [e2] at H2
 obtain ⟨b3,e3⟩:∃ b,numU false R.ul 1 1000=b:=⟨_,rfl⟩
 have H3:=zh (fun W=>tQ false R.ul 1 1000 W)
 rw [e3] at H3
 obtain ⟨b4,e4⟩:∃ b,numU true R.va 0 9=b:=⟨_,rfl⟩
 have H4:=zh (fun W=>tQ true R.va 0 9 W)
 rw [e4] at H4
 obtain ⟨b5,e5⟩:∃ b,numU false (R.n1:Int) 0 32=b:=⟨_,rfl⟩
 have H5:=zh (fun W=>tQ false (R.n1:Int) 0 32 W)
 rw [e5] at H5
 obtain ⟨b6,e6⟩:∃ b,numU false (R.n2:Int) 1 2000=b:=⟨_,rfl⟩
 have H6:=zh (fun W=>tQ false (R.n2:Int) 1 2000 W)
 rw [e6] at H6
 have E7:=zh (fun W=>run_eqN R.hs 0 W)
 have E8:=zh (fun W=>run_eqN R.lk 0 W)
 obtain ⟨b7,e7⟩:∃ b,decide (R.hs=0)=b:=⟨_,rfl⟩
 obtain ⟨b8,e8⟩:∃ b,decide (R.lk=0)=b:=⟨_,rfl⟩
 have HV:=zh (show vOp R=(b1 && (b2 && (b3 && (b4 && (b5 && (b6 && (b7 && b8))))))) by
  rw [← e1,← e2,← e3,← e4,← e5,← e6,← e7,← e8];unfold vOp;rw [h];rfl)
 rw [e7] at E7
 rw [e8] at E8
 have q7:=E7.out
 have q8:=E8.out
 rw [nmc_zero_lit] at q7 q8
 have HE:=zh ((Ext.refl w).alloc' (.cells (opA R) 69))
 have hc:=row_cases8 b1 b2 b3 b4 b5 b6 b7 b8
 clear hR h e1 e2 e3 e4 e5 e6 E7 E8
 rcases hc with rfl | ⟨rfl,rfl⟩ | ⟨rfl,rfl,rfl⟩ | ⟨rfl,rfl,rfl,rfl⟩ | ⟨rfl,rfl,rfl,rfl,rfl⟩ | ⟨rfl,rfl,rfl,rfl,rfl,rfl⟩ | ⟨rfl,rfl,rfl,rfl,rfl,rfl,rfl⟩ | ⟨rfl,rfl,rfl,rfl,rfl,rfl,rfl,rfl⟩ | ⟨rfl,rfl,rfl,rfl,rfl,rfl,rfl,rfl⟩
 all_goals first
  | (exfalso;first | exact absurd e7 (by decide) | exact absurd e8 (by decide))
  | (
   clear e7 e8
   go_enter Tryz.func81,Tryz.ntmps81
   simp only [lapp_cons,lapp_nil]
   go_wp2_with (first | (go_at_call 141;(with_reducible refine (HU.out _).mono ?_);rintro e wv ⟨rfl,rfl⟩) | (go_at_call 142;(first | (with_reducible refine (H1.out _).mono ?_) | (with_reducible refine (H2.out _).mono ?_) | (with_reducible refine (H3.out _).mono ?_) | (with_reducible refine (H4.out _).mono ?_) | (with_reducible refine (H5.out _).mono ?_) | (with_reducible refine (H6.out _).mono ?_));rintro e wv ⟨rfl,rfl⟩))
   go_ret
   exact ⟨by rw [HV.out];rfl,HE.out⟩)
theorem validOp_6 (R:OpR) (h:R.k=6) (w:World) (hR:R.ok w) :
  Calls Tryz.prog 81 #[.agg (opA R)] w fun e w'=>e=.returned (.bool (vOp R))∧Ext w w':=by
 have HU:=zh (fun W=>uses_any R.k W)
 rw [show usesK R.k=130 from by rw [h];decide] at HU
 have l1:(R.n1:Int)≤9223372036854775807:=by have:=hR.pre.le;have:=hR.pre.cap;omega
 have l2:(R.n2:Int)≤9223372036854775807:=by have:=hR.prf.le;have:=hR.prf.cap;omega
 obtain ⟨b1,e1⟩:∃ b,numU false R.tO 0 15=b:=⟨_,rfl⟩
 have H1:=zh (fun W=>tQ false R.tO 0 15 W)
 rw [e1] at H1
 obtain ⟨b2,e2⟩:∃ b,numU false R.am 1 1099511627776=b:=⟨_,rfl⟩
 have H2:=zh (fun W=>tQ false R.am 1 1099511627776 W)
 rw [e2] at H2
 obtain ⟨b3,e3⟩:∃ b,numU false R.ul 1 1000=b:=⟨_,rfl⟩
 have H3:=zh (fun W=>tQ false R.ul 1 1000 W)
 rw [e3] at H3
 obtain ⟨b4,e4⟩:∃ b,numU true R.va 0 9=b:=⟨_,rfl⟩
 have H4:=zh (fun W=>tQ true R.va 0 9 W)
 rw [e4] at H4
 obtain ⟨b5,e5⟩:∃ b,numU false (R.n1:Int) 0 32=b:=⟨_,rfl⟩
 have H5:=zh (fun W=>tQ false (R.n1:Int) 0 32 W)
 rw [e5] at H5
 obtain ⟨b6,e6⟩:∃ b,numU true (R.n2:Int) 1 2000=b:=⟨_,rfl⟩
 have H6:=zh (fun W=>tQ true (R.n2:Int) 1 2000 W)
 rw [e6] at H6
 have E7:=zh (fun W=>run_eqN R.hs 0 W)
 have E8:=zh (fun W=>run_eqN R.lk 0 W)
 obtain ⟨b7,e7⟩:∃ b,decide (R.hs=0)=b:=⟨_,rfl⟩
 obtain ⟨b8,e8⟩:∃ b,decide (R.lk=0)=b:=⟨_,rfl⟩
 have HV:=zh (show vOp R=(b1 && (b2 && (b3 && (b4 && (b5 && (b6 && (b7 && b8))))))) by
  rw [← e1,← e2,← e3,← e4,← e5,← e6,← e7,← e8];unfold vOp;rw [h];rfl)
 rw [e7] at E7
 rw [e8] at E8
 have q7:=E7.out
 have q8:=E8.out
 rw [nmc_zero_lit] at q7 q8
 have HE:=zh ((Ext.refl w).alloc' (.cells (opA R) 69))
 have hc:=row_cases8 b1 b2 b3 b4 b5 b6 b7 b8
 clear hR h e1 e2 e3 e4 e5 e6 E7 E8
 rcases hc with rfl | ⟨rfl,rfl⟩ | ⟨rfl,rfl,rfl⟩ | ⟨rfl,rfl,rfl,rfl⟩ | ⟨rfl,rfl,rfl,rfl,rfl⟩ | ⟨rfl,rfl,rfl,rfl,rfl,rfl⟩ | ⟨rfl,rfl,rfl,rfl,rfl,rfl,rfl⟩ | ⟨rfl,rfl,rfl,rfl,rfl,rfl,rfl,rfl⟩ | ⟨rfl,rfl,rfl,rfl,rfl,rfl,rfl,rfl⟩
 all_goals first
  | (exfalso;first | exact absurd e7 (by decide) | exact absurd e8 (by decide))
  | (
   clear e7 e8
   go_enter Tryz.func81,Tryz.ntmps81
   simp only [lapp_cons,lapp_nil]
   go_wp2_with (first | (go_at_call 141;(with_reducible refine (HU.out _).mono ?_);rintro e wv ⟨rfl,rfl⟩) | (go_at_call 142;(first | (with_reducible refine (H1.out _).mono ?_) | (with_reducible refine (H2.out _).mono ?_) | (with_reducible refine (H3.out _).mono ?_) | (with_reducible refine (H4.out _).mono ?_) | (with_reducible refine (H5.out _).mono ?_) | (with_reducible refine (H6.out _).mono ?_));rintro e wv ⟨rfl,rfl⟩))
   go_ret
   exact ⟨by rw [HV.out];rfl,HE.out⟩)
theorem validOp_any (R:OpR) (w:World) (hR:R.ok w) :
  Calls Tryz.prog 81 #[.agg (opA R)] w fun e w'=>e=.returned (.bool (vOp R))∧Ext w w':=by
 rcases kind_cases R.k with h | h | h | h | h | h | h
 ·exact validOp_1 R h w hR
 ·exact validOp_2 R h w hR
 ·exact validOp_3 R h w hR
 ·exact validOp_4 R h w hR
 ·exact validOp_5 R h w hR
 ·exact validOp_6 R h w hR
 rw [vOp_no h];exact validOp_no R h w
end
end Go.Proofs.YtohmmcahpakokaaGreat
