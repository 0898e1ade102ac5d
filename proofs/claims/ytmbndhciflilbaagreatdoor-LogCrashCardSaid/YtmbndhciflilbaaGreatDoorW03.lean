/-
  ref22: Append.
-/
import Derived.Test.YtmbndhciflilbaaGreatDoorW02
namespace Go.Proofs.YtmbndhciflilbaaGreatDoor.X
open Go.RowKit F
set_option maxRecDepth 100000
set_option linter.unusedSimpArgs false
set_option linter.unusedVariables false
def RaV (mb:Nat) (T s:Txt) (most d:Int):Nat→AV→Prop
 | 0,v=>v=S s
 | 1,v=>v = .int .i64 (s.length:Int)
 | 2,v=>v = .ptr mb 0
 | 3,v=>v = .ptr mb 0
 | 4,v=>v = .ptr mb 1
 | 5,v=>v = .int .i64 most
 | 6,v=>v = .ptr mb 0
 | 7,v=>v = .ptr mb 0
 | 8,v=>v = .ptr mb 0
 | 9,v=>v=S T
 | 10,v=>v = .int .i64 (T.length:Int)
 | 11,v=>v = .int .i64 d
 | 12,v=>v = .bool (decide (d < (s.length:Int)))
 | _,v=>True
theorem ra1 {cd:Code} (hc:(Tryz.f15.body).bind (Fy 1)=some cd) {r:Regs} {h:Heap} {Q:Out→Regs→Heap→Prop} {mb:Nat} {T s:Txt} {most:Int} (g:h.get mb=some [S T,.int .i64 most])
  (hw:IntKind.i64.wrap (most - (T.length:Int))=most - T.length) (r0:rg r 0 = .ptr mb 0) (r1:rg r 1=S s)
  (hQ:∀ r',rg r' 0 = .ptr mb 0→rg r' 1=S s→rg r' 17 = .bool (decide (most - (T.length:Int) < (s.length:Int)))→Q .norm r' h):wpc Tryz.prog cd Q r h:=by
 simp [Tryz.f15,Fy] at hc
 subst hc
 refine Hx (fun _ _ h'=>h=h') (RaV mb T s most (most - T.length)) κ rfl ?_ ?_
 ·rintro D r' _ rfl cl hr
  have q0:rg r' 0 = .ptr mb 0:=(Dr hr κ).trans r0
  have q1:rg r' 1=S s:=(Dr hr κ).trans r1
  refine ⟨?_,?_,?_,?_,?_,?_,?_,?_,?_,?_,?_,?_,?_,trivial⟩
  all_goals (intro hL hd;simp [DepL,VL,RaV,Region.binds] at hd)
  ·simp [q1,RaV]
  ·simp [hd,RaV]
  ·simp [q0,RaV]
  ·simp [hd,RaV]
  ·simp [hd,A8,RaV]
  ·simp [hd,g,RaV]
  ·simp [q0,RaV]
  ·simp [hd,RaV]
  ·simp [hd,A8,RaV]
  ·simp [hd,g,RaV]
  ·simp [hd,RaV]
  ·simp [hd,hw,RaV]
  ·simp [hd,RaV]
 ·rintro D r' _ hall rfl hr hA
  obtain ⟨_,_,_,_,_,_,_,_,_,_,_,_,h12,_⟩:=hA
  simp [VL,RaV] at h12
  exact hQ r' ((hr 0 μ).trans r0) ((hr 1 μ).trans r1) (by simpa using h12)
theorem A26 {mb:Nat} {T s:Txt} {most:Int} {h:Heap} (g:h.get mb=some [S T,.int .i64 most]) (hm0:0≤most∧most < 2 ^ 40) (hT:(T.length:Int)≤most) (hs:s.length < 2 ^ 63) :
  CSem Tryz.prog 15 [.ptr mb 0,S s] h fun x h'=>(most - T.length < (s.length:Int)→x = .int .i64 11∧h'=h)∧(¬most - T.length < (s.length:Int)→x = .int .i64 0∧h'=h.put mb [S (T ++ s),.int .i64 most]):=by
 refine CSem.body hm Tryz.func15 rfl κ κ (by simp [Tryz.ntmps15]) ?_
 have hbl:=Heap.Ah g
 have hw:IntKind.i64.wrap (most - (T.length:Int))=most - T.length:=wrap64 ω ω
 refine Nd (fun r h'=>rg r 0 = .ptr mb 0∧rg r 1=S s∧h=h') ?_ μ
 rintro r _ ⟨r0,r1,rfl⟩
 rw [Eb,Eb]
 refine ra1 rfl g hw r0 r1 fun r' q0 q1 q17=> ?_
 rw [Td]
 by_cases hf:most - T.length < (s.length:Int)
 ·rw [decide_eq_true hf] at q17
  simp [q17,hf]
 ·rw [decide_eq_false hf] at q17
  have hcat:T.length+s.length≤140737488355328:=by omega
  simp [q0,q1,q17,hf,A8,g,hcat,hbl]
end Go.Proofs.YtmbndhciflilbaaGreatDoor.X
